/-
  NARROWER THAN 'FOR EVERY INPUT', by the rows' own cells (each row's printed sentence says how): FactsCheckSpec: laid · FactsEncodeSpec: laid · FactsBack: laid · FactsContents: laid · FactsOrder: laid · FactsDifferent: laid · FactsOther: laid.
  DERIVED. THE GIVEN ROWS OF THIS SEAT. 7 by the template 'for every input the law returns true; each argument reads behind the call as it read before'; 0 by the template 'total and deterministic' (their statements: YtjfkeicmdaanbaaDoorTotals.lean).
  GIVEN WITH THE SEED: the statements are not yours to turn. If you find one false, say at which input.
  Laid BY PROGRAM, IN A SANDBOX (cutbox-rows.mjs): the forced cells as the released guide's own fill.sh prints them over the translation 38f0771f404ce5d7… (all of the seat's roots in one cut). By AI agents, Wed Nov 11 2026. No macro, syntax, notation, axiom, sorry.
-/
import Derived.Test.YtjfkeicmdaanbaaDoorChecked
import GoSem.Claim
import GoSem.ClaimJoined
import GoSem.ClaimMapViews
import Derived.JoinedTies
import Derived.KernelRfl
namespace Go.Proofs.YtjfkeicmdaanbaaDoor
/- THE CELL 'sum', in the pinned program and in every row, IS THE sha256 OF THE DUMP (.gsa) THAT YtjfkeicmdaanbaaDoorProg.lean LOADS. Nothing in Lean hashes anything: it is a label: what it is worth is what the hold of that sum in a sandbox is worth. -/
noncomputable def Tryd.pinned : Pinned := { name := "ytjfkeicmdaanbaadoor", sum := "38f0771f404ce5d74d1f3c2c3da72f43014048a993b649f1a0fe9ed793e18486", checked := Tryd.checked }
namespace Rows
def none {H : Type} : Left H := { results := [], args := [] }

/- WHAT THE LISTED PACKAGE-LEVEL VARIABLES READ AS WHEN THE CALL BEGINS. Each datum BY PROGRAM (the guide's laid-datum.mjs) off the statement by which the dump's own 'gosem.cut.vars' lays the variable. In a bare row this is a premise. The card (YtjfkeicmdaanbaaDoorCards.lean) ties it to the program's text. -/
def laid_stopwatch_facts_timeS {H : Type} : DataW H := .agg [.lit (.int .i64 (-1099511627776)), .lit (.int .i64 1099511627776)]
def laid_stopwatch_facts_lengthS {H : Type} : DataW H := .agg [.lit (.int .i64 0), .lit (.int .i64 1099511627776)]
def laid_stopwatch_facts_bibS {H : Type} : DataW H := .agg [.lit (.int .i64 1), .lit (.int .i64 9999)]
def laid_stopwatch_facts_matS {H : Type} : DataW H := .agg [.lit (.int .i64 0), .lit (.int .i64 39)]
def laid_stopwatch_facts_epochS {H : Type} : DataW H := .agg [.lit (.int .i64 0), .lit (.int .i64 255)]
def laid_stopwatch_facts_chipS {H : Type} : DataW H := .agg [.lit (.int .i64 0), .lit (.int .i64 1048576)]
def laid_stopwatch_facts_positionS {H : Type} : DataW H := .agg [.lit (.int .i64 0), .lit (.int .i64 255)]
def laid_stopwatch_facts_caseS {H : Type} : DataW H := .agg [.lit (.int .i64 1), .lit (.int .i64 1048576)]
def laid_stopwatch_facts_crewS {H : Type} : DataW H := .agg [.lit (.int .i64 0), .lit (.int .i64 31)]
def laid_stopwatch_facts_numberS {H : Type} : DataW H := .agg [.lit (.int .i64 1), .lit (.int .i64 1048576)]
def laid_stopwatch_facts_bitS {H : Type} : DataW H := .agg [.lit (.int .i64 0), .lit (.int .i64 1)]

/-- 'stopwatchlaw12.FactsCheckSpec': WHATEVER THE INPUT: true; the input reads as it did. -/
def factsCheckSpecSpec : ChangeSpec := { name := "factsCheckSpec", fn := fun _ => fun
  | [d1, d2] => { results := [.lit (.bool true)], args := [d1, d2] }
  | _ => none }
def factsCheckSpecRow : OpenClaim := { program := "ytjfkeicmdaanbaadoor", sum := "38f0771f404ce5d74d1f3c2c3da72f43014048a993b649f1a0fe9ed793e18486", func := "stopwatch/stopwatchlaw12.FactsCheckSpec", spec := "factsCheckSpec", inPlace := ["internal/bytealg.Compare"], unfollowed := true, recurses := true, named := ["stopwatch/facts.bibS", "stopwatch/facts.timeS", "stopwatch/facts.chipS", "stopwatch/facts.matS", "stopwatch/facts.epochS", "stopwatch/facts.lengthS", "stopwatch/facts.positionS", "stopwatch/facts.caseS", "stopwatch/facts.bitS", "stopwatch/facts.crewS", "stopwatch/facts.numberS"], apart := false, laid := [("stopwatch/facts.timeS", laid_stopwatch_facts_timeS), ("stopwatch/facts.lengthS", laid_stopwatch_facts_lengthS), ("stopwatch/facts.bibS", laid_stopwatch_facts_bibS), ("stopwatch/facts.matS", laid_stopwatch_facts_matS), ("stopwatch/facts.epochS", laid_stopwatch_facts_epochS), ("stopwatch/facts.chipS", laid_stopwatch_facts_chipS), ("stopwatch/facts.positionS", laid_stopwatch_facts_positionS), ("stopwatch/facts.caseS", laid_stopwatch_facts_caseS), ("stopwatch/facts.crewS", laid_stopwatch_facts_crewS), ("stopwatch/facts.numberS", laid_stopwatch_facts_numberS), ("stopwatch/facts.bitS", laid_stopwatch_facts_bitS)] }
def FactsCheckSpecSaid : Prop := factsCheckSpecRow.holds Tryd.pinned (OpenSpec.ofChange factsCheckSpecSpec)

/-- ITS FALSE NEIGHBOUR: 'it returns false'. Refute it at one input. -/
def factsCheckSpecWrong : ChangeSpec := { name := "factsCheckSpec", fn := fun _ => fun
  | [d1, d2] => { results := [.lit (.bool false)], args := [d1, d2] }
  | _ => none }
def FactsCheckSpecWrongFalsely : Prop := factsCheckSpecRow.holds Tryd.pinned (OpenSpec.ofChange factsCheckSpecWrong)

/-- 'stopwatchlaw12.FactsEncodeSpec': WHATEVER THE INPUT: true; the input reads as it did. -/
def factsEncodeSpecSpec : ChangeSpec := { name := "factsEncodeSpec", fn := fun _ => fun
  | [d1, d2] => { results := [.lit (.bool true)], args := [d1, d2] }
  | _ => none }
def factsEncodeSpecRow : OpenClaim := { program := "ytjfkeicmdaanbaadoor", sum := "38f0771f404ce5d74d1f3c2c3da72f43014048a993b649f1a0fe9ed793e18486", func := "stopwatch/stopwatchlaw12.FactsEncodeSpec", spec := "factsEncodeSpec", inPlace := ["internal/bytealg.Compare"], unfollowed := true, recurses := true, named := ["stopwatch/facts.bibS", "stopwatch/facts.timeS", "stopwatch/facts.chipS", "stopwatch/facts.matS", "stopwatch/facts.epochS", "stopwatch/facts.lengthS", "stopwatch/facts.positionS", "stopwatch/facts.caseS", "stopwatch/facts.bitS", "stopwatch/facts.crewS", "stopwatch/facts.numberS"], apart := false, laid := [("stopwatch/facts.timeS", laid_stopwatch_facts_timeS), ("stopwatch/facts.lengthS", laid_stopwatch_facts_lengthS), ("stopwatch/facts.bibS", laid_stopwatch_facts_bibS), ("stopwatch/facts.matS", laid_stopwatch_facts_matS), ("stopwatch/facts.epochS", laid_stopwatch_facts_epochS), ("stopwatch/facts.chipS", laid_stopwatch_facts_chipS), ("stopwatch/facts.positionS", laid_stopwatch_facts_positionS), ("stopwatch/facts.caseS", laid_stopwatch_facts_caseS), ("stopwatch/facts.crewS", laid_stopwatch_facts_crewS), ("stopwatch/facts.numberS", laid_stopwatch_facts_numberS), ("stopwatch/facts.bitS", laid_stopwatch_facts_bitS)] }
def FactsEncodeSpecSaid : Prop := factsEncodeSpecRow.holds Tryd.pinned (OpenSpec.ofChange factsEncodeSpecSpec)

/-- ITS FALSE NEIGHBOUR: 'it returns false'. Refute it at one input. -/
def factsEncodeSpecWrong : ChangeSpec := { name := "factsEncodeSpec", fn := fun _ => fun
  | [d1, d2] => { results := [.lit (.bool false)], args := [d1, d2] }
  | _ => none }
def FactsEncodeSpecWrongFalsely : Prop := factsEncodeSpecRow.holds Tryd.pinned (OpenSpec.ofChange factsEncodeSpecWrong)

/-- 'stopwatchlaw12.FactsBack': WHATEVER THE INPUT: true; the input reads as it did. -/
def factsBackSpec : ChangeSpec := { name := "factsBack", fn := fun _ => fun
  | [d1, d2] => { results := [.lit (.bool true)], args := [d1, d2] }
  | _ => none }
def factsBackRow : OpenClaim := { program := "ytjfkeicmdaanbaadoor", sum := "38f0771f404ce5d74d1f3c2c3da72f43014048a993b649f1a0fe9ed793e18486", func := "stopwatch/stopwatchlaw12.FactsBack", spec := "factsBack", inPlace := ["internal/bytealg.Compare"], unfollowed := true, recurses := true, named := ["stopwatch/facts.bibS", "stopwatch/facts.timeS", "stopwatch/facts.chipS", "stopwatch/facts.matS", "stopwatch/facts.epochS", "stopwatch/facts.lengthS", "stopwatch/facts.positionS", "stopwatch/facts.caseS", "stopwatch/facts.bitS", "stopwatch/facts.crewS", "stopwatch/facts.numberS"], apart := false, laid := [("stopwatch/facts.timeS", laid_stopwatch_facts_timeS), ("stopwatch/facts.lengthS", laid_stopwatch_facts_lengthS), ("stopwatch/facts.bibS", laid_stopwatch_facts_bibS), ("stopwatch/facts.matS", laid_stopwatch_facts_matS), ("stopwatch/facts.epochS", laid_stopwatch_facts_epochS), ("stopwatch/facts.chipS", laid_stopwatch_facts_chipS), ("stopwatch/facts.positionS", laid_stopwatch_facts_positionS), ("stopwatch/facts.caseS", laid_stopwatch_facts_caseS), ("stopwatch/facts.crewS", laid_stopwatch_facts_crewS), ("stopwatch/facts.numberS", laid_stopwatch_facts_numberS), ("stopwatch/facts.bitS", laid_stopwatch_facts_bitS)] }
def FactsBackSaid : Prop := factsBackRow.holds Tryd.pinned (OpenSpec.ofChange factsBackSpec)

/-- ITS FALSE NEIGHBOUR: 'it returns false'. Refute it at one input. -/
def factsBackWrong : ChangeSpec := { name := "factsBack", fn := fun _ => fun
  | [d1, d2] => { results := [.lit (.bool false)], args := [d1, d2] }
  | _ => none }
def FactsBackWrongFalsely : Prop := factsBackRow.holds Tryd.pinned (OpenSpec.ofChange factsBackWrong)

/-- 'stopwatchlaw12.FactsContents': WHATEVER THE INPUT: true; the input reads as it did. -/
def factsContentsSpec : ChangeSpec := { name := "factsContents", fn := fun _ => fun
  | [d] => { results := [.lit (.bool true)], args := [d] }
  | _ => none }
def factsContentsRow : OpenClaim := { program := "ytjfkeicmdaanbaadoor", sum := "38f0771f404ce5d74d1f3c2c3da72f43014048a993b649f1a0fe9ed793e18486", func := "stopwatch/stopwatchlaw12.FactsContents", spec := "factsContents", inPlace := ["internal/bytealg.Compare"], unfollowed := true, recurses := true, named := ["stopwatch/facts.bibS", "stopwatch/facts.timeS", "stopwatch/facts.chipS", "stopwatch/facts.matS", "stopwatch/facts.epochS", "stopwatch/facts.lengthS", "stopwatch/facts.positionS", "stopwatch/facts.caseS", "stopwatch/facts.bitS", "stopwatch/facts.crewS", "stopwatch/facts.numberS"], apart := false, laid := [("stopwatch/facts.timeS", laid_stopwatch_facts_timeS), ("stopwatch/facts.lengthS", laid_stopwatch_facts_lengthS), ("stopwatch/facts.bibS", laid_stopwatch_facts_bibS), ("stopwatch/facts.matS", laid_stopwatch_facts_matS), ("stopwatch/facts.epochS", laid_stopwatch_facts_epochS), ("stopwatch/facts.chipS", laid_stopwatch_facts_chipS), ("stopwatch/facts.positionS", laid_stopwatch_facts_positionS), ("stopwatch/facts.caseS", laid_stopwatch_facts_caseS), ("stopwatch/facts.crewS", laid_stopwatch_facts_crewS), ("stopwatch/facts.numberS", laid_stopwatch_facts_numberS), ("stopwatch/facts.bitS", laid_stopwatch_facts_bitS)] }
def FactsContentsSaid : Prop := factsContentsRow.holds Tryd.pinned (OpenSpec.ofChange factsContentsSpec)

/-- ITS FALSE NEIGHBOUR: 'it returns false'. Refute it at one input. -/
def factsContentsWrong : ChangeSpec := { name := "factsContents", fn := fun _ => fun
  | [d] => { results := [.lit (.bool false)], args := [d] }
  | _ => none }
def FactsContentsWrongFalsely : Prop := factsContentsRow.holds Tryd.pinned (OpenSpec.ofChange factsContentsWrong)

/-- 'stopwatchlaw12.FactsOrder': WHATEVER THE INPUT: true; the input reads as it did. -/
def factsOrderSpec : ChangeSpec := { name := "factsOrder", fn := fun _ => fun
  | [d1, d2, d3] => { results := [.lit (.bool true)], args := [d1, d2, d3] }
  | _ => none }
def factsOrderRow : OpenClaim := { program := "ytjfkeicmdaanbaadoor", sum := "38f0771f404ce5d74d1f3c2c3da72f43014048a993b649f1a0fe9ed793e18486", func := "stopwatch/stopwatchlaw12.FactsOrder", spec := "factsOrder", inPlace := ["internal/bytealg.Compare"], unfollowed := true, recurses := true, named := ["stopwatch/facts.bibS", "stopwatch/facts.timeS", "stopwatch/facts.chipS", "stopwatch/facts.matS", "stopwatch/facts.epochS", "stopwatch/facts.lengthS", "stopwatch/facts.positionS", "stopwatch/facts.caseS", "stopwatch/facts.bitS", "stopwatch/facts.crewS", "stopwatch/facts.numberS"], apart := false, laid := [("stopwatch/facts.timeS", laid_stopwatch_facts_timeS), ("stopwatch/facts.lengthS", laid_stopwatch_facts_lengthS), ("stopwatch/facts.bibS", laid_stopwatch_facts_bibS), ("stopwatch/facts.matS", laid_stopwatch_facts_matS), ("stopwatch/facts.epochS", laid_stopwatch_facts_epochS), ("stopwatch/facts.chipS", laid_stopwatch_facts_chipS), ("stopwatch/facts.positionS", laid_stopwatch_facts_positionS), ("stopwatch/facts.caseS", laid_stopwatch_facts_caseS), ("stopwatch/facts.crewS", laid_stopwatch_facts_crewS), ("stopwatch/facts.numberS", laid_stopwatch_facts_numberS), ("stopwatch/facts.bitS", laid_stopwatch_facts_bitS)] }
def FactsOrderSaid : Prop := factsOrderRow.holds Tryd.pinned (OpenSpec.ofChange factsOrderSpec)

/-- ITS FALSE NEIGHBOUR: 'it returns false'. Refute it at one input. -/
def factsOrderWrong : ChangeSpec := { name := "factsOrder", fn := fun _ => fun
  | [d1, d2, d3] => { results := [.lit (.bool false)], args := [d1, d2, d3] }
  | _ => none }
def FactsOrderWrongFalsely : Prop := factsOrderRow.holds Tryd.pinned (OpenSpec.ofChange factsOrderWrong)

/-- 'stopwatchlaw12.FactsDifferent': WHATEVER THE INPUT: true; the input reads as it did. -/
def factsDifferentSpec : ChangeSpec := { name := "factsDifferent", fn := fun _ => fun
  | [d1, d2] => { results := [.lit (.bool true)], args := [d1, d2] }
  | _ => none }
def factsDifferentRow : OpenClaim := { program := "ytjfkeicmdaanbaadoor", sum := "38f0771f404ce5d74d1f3c2c3da72f43014048a993b649f1a0fe9ed793e18486", func := "stopwatch/stopwatchlaw12.FactsDifferent", spec := "factsDifferent", inPlace := ["internal/bytealg.Compare"], unfollowed := true, recurses := true, named := ["stopwatch/facts.bibS", "stopwatch/facts.timeS", "stopwatch/facts.chipS", "stopwatch/facts.matS", "stopwatch/facts.epochS", "stopwatch/facts.lengthS", "stopwatch/facts.positionS", "stopwatch/facts.caseS", "stopwatch/facts.bitS", "stopwatch/facts.crewS", "stopwatch/facts.numberS"], apart := false, laid := [("stopwatch/facts.timeS", laid_stopwatch_facts_timeS), ("stopwatch/facts.lengthS", laid_stopwatch_facts_lengthS), ("stopwatch/facts.bibS", laid_stopwatch_facts_bibS), ("stopwatch/facts.matS", laid_stopwatch_facts_matS), ("stopwatch/facts.epochS", laid_stopwatch_facts_epochS), ("stopwatch/facts.chipS", laid_stopwatch_facts_chipS), ("stopwatch/facts.positionS", laid_stopwatch_facts_positionS), ("stopwatch/facts.caseS", laid_stopwatch_facts_caseS), ("stopwatch/facts.crewS", laid_stopwatch_facts_crewS), ("stopwatch/facts.numberS", laid_stopwatch_facts_numberS), ("stopwatch/facts.bitS", laid_stopwatch_facts_bitS)] }
def FactsDifferentSaid : Prop := factsDifferentRow.holds Tryd.pinned (OpenSpec.ofChange factsDifferentSpec)

/-- ITS FALSE NEIGHBOUR: 'it returns false'. Refute it at one input. -/
def factsDifferentWrong : ChangeSpec := { name := "factsDifferent", fn := fun _ => fun
  | [d1, d2] => { results := [.lit (.bool false)], args := [d1, d2] }
  | _ => none }
def FactsDifferentWrongFalsely : Prop := factsDifferentRow.holds Tryd.pinned (OpenSpec.ofChange factsDifferentWrong)

/-- 'stopwatchlaw12.FactsOther': WHATEVER THE INPUT: true; the input reads as it did. -/
def factsOtherSpec : ChangeSpec := { name := "factsOther", fn := fun _ => fun
  | [d1, d2] => { results := [.lit (.bool true)], args := [d1, d2] }
  | _ => none }
def factsOtherRow : OpenClaim := { program := "ytjfkeicmdaanbaadoor", sum := "38f0771f404ce5d74d1f3c2c3da72f43014048a993b649f1a0fe9ed793e18486", func := "stopwatch/stopwatchlaw12.FactsOther", spec := "factsOther", inPlace := ["internal/bytealg.Compare"], unfollowed := true, recurses := true, named := ["stopwatch/facts.bibS", "stopwatch/facts.timeS", "stopwatch/facts.chipS", "stopwatch/facts.matS", "stopwatch/facts.epochS", "stopwatch/facts.lengthS", "stopwatch/facts.positionS", "stopwatch/facts.caseS", "stopwatch/facts.bitS", "stopwatch/facts.crewS", "stopwatch/facts.numberS"], apart := false, laid := [("stopwatch/facts.timeS", laid_stopwatch_facts_timeS), ("stopwatch/facts.lengthS", laid_stopwatch_facts_lengthS), ("stopwatch/facts.bibS", laid_stopwatch_facts_bibS), ("stopwatch/facts.matS", laid_stopwatch_facts_matS), ("stopwatch/facts.epochS", laid_stopwatch_facts_epochS), ("stopwatch/facts.chipS", laid_stopwatch_facts_chipS), ("stopwatch/facts.positionS", laid_stopwatch_facts_positionS), ("stopwatch/facts.caseS", laid_stopwatch_facts_caseS), ("stopwatch/facts.crewS", laid_stopwatch_facts_crewS), ("stopwatch/facts.numberS", laid_stopwatch_facts_numberS), ("stopwatch/facts.bitS", laid_stopwatch_facts_bitS)] }
def FactsOtherSaid : Prop := factsOtherRow.holds Tryd.pinned (OpenSpec.ofChange factsOtherSpec)

/-- ITS FALSE NEIGHBOUR: 'it returns false'. Refute it at one input. -/
def factsOtherWrong : ChangeSpec := { name := "factsOther", fn := fun _ => fun
  | [d1, d2] => { results := [.lit (.bool false)], args := [d1, d2] }
  | _ => none }
def FactsOtherWrongFalsely : Prop := factsOtherRow.holds Tryd.pinned (OpenSpec.ofChange factsOtherWrong)

/- THE SECOND FORM. 'bulk': how many values and letters a reading holds, each counted each time it is reached (what is shared counts as often as it is met; a slice's spare places count too). A statement '..UptoSaid' is the law's where the arguments, and the package variables that the reading takes, are together of bulk at most 1048576: NARROWER than '..Said'. Prove '..Said' where nothing that the law and all that it calls make is longer than what came in: it says more and counts as full. Else prove '..UptoSaid'. A law counts once. -/
mutual
def uptoBulk {H : Type} : DataW H → Nat
  | .lit (.string bytes) => bytes.length + 1
  | .lit _ => 1
  | .nil => 1
  | .ptr d => uptoBulk d + 1
  | .slice elems spare => uptoBulkAll elems + uptoBulkAll spare + 1
  | .agg parts => uptoBulkAll parts + 1
  | .iface _ d => uptoBulk d + 1
  | .map entries => uptoBulkEntries entries + 1
  | .held _ => 1
def uptoBulkAll {H : Type} : List (DataW H) → Nat
  | [] => 0
  | d :: r => uptoBulk d + uptoBulkAll r
def uptoBulkEntries {H : Type} : List (Lit × DataW H) → Nat
  | [] => 0
  | x :: r => uptoBulkEntry x + uptoBulkEntries r
def uptoBulkEntry {H : Type} : Lit × DataW H → Nat
  | (.string bytes, d) => bytes.length + uptoBulk d + 1
  | (_, d) => uptoBulk d + 1
 end
def uptoSmall : (H : Type) → List (DataW H) → Bool := fun _ ds => decide (uptoBulkAll ds ≤ 1048576)
def OpenSpec.upto (s : _root_.Go.ChangeSpec) : _root_.Go.OpenSpec := { _root_.Go.OpenSpec.ofChange s with cond := some uptoSmall }

/-- 'stopwatchlaw12.FactsCheckSpec', WHERE WHAT IT READS IS OF BULK AT MOST 1048576: true; the input reads as it did. -/
def factsCheckSpecUptoRow : OpenClaim := { program := "ytjfkeicmdaanbaadoor", sum := "38f0771f404ce5d74d1f3c2c3da72f43014048a993b649f1a0fe9ed793e18486", func := "stopwatch/stopwatchlaw12.FactsCheckSpec", spec := "factsCheckSpec", inPlace := ["internal/bytealg.Compare"], unfollowed := true, recurses := true, named := ["stopwatch/facts.bibS", "stopwatch/facts.timeS", "stopwatch/facts.chipS", "stopwatch/facts.matS", "stopwatch/facts.epochS", "stopwatch/facts.lengthS", "stopwatch/facts.positionS", "stopwatch/facts.caseS", "stopwatch/facts.bitS", "stopwatch/facts.crewS", "stopwatch/facts.numberS"], apart := false, laid := [("stopwatch/facts.timeS", laid_stopwatch_facts_timeS), ("stopwatch/facts.lengthS", laid_stopwatch_facts_lengthS), ("stopwatch/facts.bibS", laid_stopwatch_facts_bibS), ("stopwatch/facts.matS", laid_stopwatch_facts_matS), ("stopwatch/facts.epochS", laid_stopwatch_facts_epochS), ("stopwatch/facts.chipS", laid_stopwatch_facts_chipS), ("stopwatch/facts.positionS", laid_stopwatch_facts_positionS), ("stopwatch/facts.caseS", laid_stopwatch_facts_caseS), ("stopwatch/facts.crewS", laid_stopwatch_facts_crewS), ("stopwatch/facts.numberS", laid_stopwatch_facts_numberS), ("stopwatch/facts.bitS", laid_stopwatch_facts_bitS)], narrowed := true }
def FactsCheckSpecUptoSaid : Prop := factsCheckSpecUptoRow.holds Tryd.pinned (OpenSpec.upto factsCheckSpecSpec)

/-- 'stopwatchlaw12.FactsEncodeSpec', WHERE WHAT IT READS IS OF BULK AT MOST 1048576: true; the input reads as it did. -/
def factsEncodeSpecUptoRow : OpenClaim := { program := "ytjfkeicmdaanbaadoor", sum := "38f0771f404ce5d74d1f3c2c3da72f43014048a993b649f1a0fe9ed793e18486", func := "stopwatch/stopwatchlaw12.FactsEncodeSpec", spec := "factsEncodeSpec", inPlace := ["internal/bytealg.Compare"], unfollowed := true, recurses := true, named := ["stopwatch/facts.bibS", "stopwatch/facts.timeS", "stopwatch/facts.chipS", "stopwatch/facts.matS", "stopwatch/facts.epochS", "stopwatch/facts.lengthS", "stopwatch/facts.positionS", "stopwatch/facts.caseS", "stopwatch/facts.bitS", "stopwatch/facts.crewS", "stopwatch/facts.numberS"], apart := false, laid := [("stopwatch/facts.timeS", laid_stopwatch_facts_timeS), ("stopwatch/facts.lengthS", laid_stopwatch_facts_lengthS), ("stopwatch/facts.bibS", laid_stopwatch_facts_bibS), ("stopwatch/facts.matS", laid_stopwatch_facts_matS), ("stopwatch/facts.epochS", laid_stopwatch_facts_epochS), ("stopwatch/facts.chipS", laid_stopwatch_facts_chipS), ("stopwatch/facts.positionS", laid_stopwatch_facts_positionS), ("stopwatch/facts.caseS", laid_stopwatch_facts_caseS), ("stopwatch/facts.crewS", laid_stopwatch_facts_crewS), ("stopwatch/facts.numberS", laid_stopwatch_facts_numberS), ("stopwatch/facts.bitS", laid_stopwatch_facts_bitS)], narrowed := true }
def FactsEncodeSpecUptoSaid : Prop := factsEncodeSpecUptoRow.holds Tryd.pinned (OpenSpec.upto factsEncodeSpecSpec)

/-- 'stopwatchlaw12.FactsBack', WHERE WHAT IT READS IS OF BULK AT MOST 1048576: true; the input reads as it did. -/
def factsBackUptoRow : OpenClaim := { program := "ytjfkeicmdaanbaadoor", sum := "38f0771f404ce5d74d1f3c2c3da72f43014048a993b649f1a0fe9ed793e18486", func := "stopwatch/stopwatchlaw12.FactsBack", spec := "factsBack", inPlace := ["internal/bytealg.Compare"], unfollowed := true, recurses := true, named := ["stopwatch/facts.bibS", "stopwatch/facts.timeS", "stopwatch/facts.chipS", "stopwatch/facts.matS", "stopwatch/facts.epochS", "stopwatch/facts.lengthS", "stopwatch/facts.positionS", "stopwatch/facts.caseS", "stopwatch/facts.bitS", "stopwatch/facts.crewS", "stopwatch/facts.numberS"], apart := false, laid := [("stopwatch/facts.timeS", laid_stopwatch_facts_timeS), ("stopwatch/facts.lengthS", laid_stopwatch_facts_lengthS), ("stopwatch/facts.bibS", laid_stopwatch_facts_bibS), ("stopwatch/facts.matS", laid_stopwatch_facts_matS), ("stopwatch/facts.epochS", laid_stopwatch_facts_epochS), ("stopwatch/facts.chipS", laid_stopwatch_facts_chipS), ("stopwatch/facts.positionS", laid_stopwatch_facts_positionS), ("stopwatch/facts.caseS", laid_stopwatch_facts_caseS), ("stopwatch/facts.crewS", laid_stopwatch_facts_crewS), ("stopwatch/facts.numberS", laid_stopwatch_facts_numberS), ("stopwatch/facts.bitS", laid_stopwatch_facts_bitS)], narrowed := true }
def FactsBackUptoSaid : Prop := factsBackUptoRow.holds Tryd.pinned (OpenSpec.upto factsBackSpec)

/-- 'stopwatchlaw12.FactsContents', WHERE WHAT IT READS IS OF BULK AT MOST 1048576: true; the input reads as it did. -/
def factsContentsUptoRow : OpenClaim := { program := "ytjfkeicmdaanbaadoor", sum := "38f0771f404ce5d74d1f3c2c3da72f43014048a993b649f1a0fe9ed793e18486", func := "stopwatch/stopwatchlaw12.FactsContents", spec := "factsContents", inPlace := ["internal/bytealg.Compare"], unfollowed := true, recurses := true, named := ["stopwatch/facts.bibS", "stopwatch/facts.timeS", "stopwatch/facts.chipS", "stopwatch/facts.matS", "stopwatch/facts.epochS", "stopwatch/facts.lengthS", "stopwatch/facts.positionS", "stopwatch/facts.caseS", "stopwatch/facts.bitS", "stopwatch/facts.crewS", "stopwatch/facts.numberS"], apart := false, laid := [("stopwatch/facts.timeS", laid_stopwatch_facts_timeS), ("stopwatch/facts.lengthS", laid_stopwatch_facts_lengthS), ("stopwatch/facts.bibS", laid_stopwatch_facts_bibS), ("stopwatch/facts.matS", laid_stopwatch_facts_matS), ("stopwatch/facts.epochS", laid_stopwatch_facts_epochS), ("stopwatch/facts.chipS", laid_stopwatch_facts_chipS), ("stopwatch/facts.positionS", laid_stopwatch_facts_positionS), ("stopwatch/facts.caseS", laid_stopwatch_facts_caseS), ("stopwatch/facts.crewS", laid_stopwatch_facts_crewS), ("stopwatch/facts.numberS", laid_stopwatch_facts_numberS), ("stopwatch/facts.bitS", laid_stopwatch_facts_bitS)], narrowed := true }
def FactsContentsUptoSaid : Prop := factsContentsUptoRow.holds Tryd.pinned (OpenSpec.upto factsContentsSpec)

/-- 'stopwatchlaw12.FactsOrder', WHERE WHAT IT READS IS OF BULK AT MOST 1048576: true; the input reads as it did. -/
def factsOrderUptoRow : OpenClaim := { program := "ytjfkeicmdaanbaadoor", sum := "38f0771f404ce5d74d1f3c2c3da72f43014048a993b649f1a0fe9ed793e18486", func := "stopwatch/stopwatchlaw12.FactsOrder", spec := "factsOrder", inPlace := ["internal/bytealg.Compare"], unfollowed := true, recurses := true, named := ["stopwatch/facts.bibS", "stopwatch/facts.timeS", "stopwatch/facts.chipS", "stopwatch/facts.matS", "stopwatch/facts.epochS", "stopwatch/facts.lengthS", "stopwatch/facts.positionS", "stopwatch/facts.caseS", "stopwatch/facts.bitS", "stopwatch/facts.crewS", "stopwatch/facts.numberS"], apart := false, laid := [("stopwatch/facts.timeS", laid_stopwatch_facts_timeS), ("stopwatch/facts.lengthS", laid_stopwatch_facts_lengthS), ("stopwatch/facts.bibS", laid_stopwatch_facts_bibS), ("stopwatch/facts.matS", laid_stopwatch_facts_matS), ("stopwatch/facts.epochS", laid_stopwatch_facts_epochS), ("stopwatch/facts.chipS", laid_stopwatch_facts_chipS), ("stopwatch/facts.positionS", laid_stopwatch_facts_positionS), ("stopwatch/facts.caseS", laid_stopwatch_facts_caseS), ("stopwatch/facts.crewS", laid_stopwatch_facts_crewS), ("stopwatch/facts.numberS", laid_stopwatch_facts_numberS), ("stopwatch/facts.bitS", laid_stopwatch_facts_bitS)], narrowed := true }
def FactsOrderUptoSaid : Prop := factsOrderUptoRow.holds Tryd.pinned (OpenSpec.upto factsOrderSpec)

/-- 'stopwatchlaw12.FactsDifferent', WHERE WHAT IT READS IS OF BULK AT MOST 1048576: true; the input reads as it did. -/
def factsDifferentUptoRow : OpenClaim := { program := "ytjfkeicmdaanbaadoor", sum := "38f0771f404ce5d74d1f3c2c3da72f43014048a993b649f1a0fe9ed793e18486", func := "stopwatch/stopwatchlaw12.FactsDifferent", spec := "factsDifferent", inPlace := ["internal/bytealg.Compare"], unfollowed := true, recurses := true, named := ["stopwatch/facts.bibS", "stopwatch/facts.timeS", "stopwatch/facts.chipS", "stopwatch/facts.matS", "stopwatch/facts.epochS", "stopwatch/facts.lengthS", "stopwatch/facts.positionS", "stopwatch/facts.caseS", "stopwatch/facts.bitS", "stopwatch/facts.crewS", "stopwatch/facts.numberS"], apart := false, laid := [("stopwatch/facts.timeS", laid_stopwatch_facts_timeS), ("stopwatch/facts.lengthS", laid_stopwatch_facts_lengthS), ("stopwatch/facts.bibS", laid_stopwatch_facts_bibS), ("stopwatch/facts.matS", laid_stopwatch_facts_matS), ("stopwatch/facts.epochS", laid_stopwatch_facts_epochS), ("stopwatch/facts.chipS", laid_stopwatch_facts_chipS), ("stopwatch/facts.positionS", laid_stopwatch_facts_positionS), ("stopwatch/facts.caseS", laid_stopwatch_facts_caseS), ("stopwatch/facts.crewS", laid_stopwatch_facts_crewS), ("stopwatch/facts.numberS", laid_stopwatch_facts_numberS), ("stopwatch/facts.bitS", laid_stopwatch_facts_bitS)], narrowed := true }
def FactsDifferentUptoSaid : Prop := factsDifferentUptoRow.holds Tryd.pinned (OpenSpec.upto factsDifferentSpec)

/-- 'stopwatchlaw12.FactsOther', WHERE WHAT IT READS IS OF BULK AT MOST 1048576: true; the input reads as it did. -/
def factsOtherUptoRow : OpenClaim := { program := "ytjfkeicmdaanbaadoor", sum := "38f0771f404ce5d74d1f3c2c3da72f43014048a993b649f1a0fe9ed793e18486", func := "stopwatch/stopwatchlaw12.FactsOther", spec := "factsOther", inPlace := ["internal/bytealg.Compare"], unfollowed := true, recurses := true, named := ["stopwatch/facts.bibS", "stopwatch/facts.timeS", "stopwatch/facts.chipS", "stopwatch/facts.matS", "stopwatch/facts.epochS", "stopwatch/facts.lengthS", "stopwatch/facts.positionS", "stopwatch/facts.caseS", "stopwatch/facts.bitS", "stopwatch/facts.crewS", "stopwatch/facts.numberS"], apart := false, laid := [("stopwatch/facts.timeS", laid_stopwatch_facts_timeS), ("stopwatch/facts.lengthS", laid_stopwatch_facts_lengthS), ("stopwatch/facts.bibS", laid_stopwatch_facts_bibS), ("stopwatch/facts.matS", laid_stopwatch_facts_matS), ("stopwatch/facts.epochS", laid_stopwatch_facts_epochS), ("stopwatch/facts.chipS", laid_stopwatch_facts_chipS), ("stopwatch/facts.positionS", laid_stopwatch_facts_positionS), ("stopwatch/facts.caseS", laid_stopwatch_facts_caseS), ("stopwatch/facts.crewS", laid_stopwatch_facts_crewS), ("stopwatch/facts.numberS", laid_stopwatch_facts_numberS), ("stopwatch/facts.bitS", laid_stopwatch_facts_bitS)], narrowed := true }
def FactsOtherUptoSaid : Prop := factsOtherUptoRow.holds Tryd.pinned (OpenSpec.upto factsOtherSpec)

end Rows
end Go.Proofs.YtjfkeicmdaanbaaDoor
