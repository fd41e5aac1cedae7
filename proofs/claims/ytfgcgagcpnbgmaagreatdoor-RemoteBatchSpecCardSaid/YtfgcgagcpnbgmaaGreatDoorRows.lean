/-
  NARROWER THAN 'FOR EVERY INPUT', by the rows' own cells (each row's printed sentence says how): RemoteNewSpec: laid · RemoteRecordSpec: laid · RemoteBatchSpec: laid · RemoteAgain: laid · RemoteAltered: laid · RemoteNumbers: laid · RemoteDurable: laid.
  DERIVED. THE GIVEN ROWS OF THIS SEAT. 7 by the template 'for every input the law returns true; each argument reads behind the call as it read before'; 0 by the template 'total and deterministic' (their statements: YtfgcgagcpnbgmaaGreatDoorTotals.lean).
  GIVEN WITH THE SEED: the statements are not yours to turn. If you find one false, say at which input.
  Laid BY PROGRAM, IN A SANDBOX (cutbox-rows.mjs): the forced cells as the released guide's own fill.sh prints them over the translation 8a7e890e18e4f045… (all of the seat's roots in one cut). By AI agents, Wed Nov 11 2026. No macro, syntax, notation, axiom, sorry.
-/
import Derived.Test.YtfgcgagcpnbgmaaGreatDoorChecked
import GoSem.Claim
import GoSem.ClaimJoined
import GoSem.ClaimMapViews
import Derived.JoinedTies
import Derived.KernelRfl
namespace Go.Proofs.YtfgcgagcpnbgmaaGreatDoor
/- THE CELL 'sum', in the pinned program and in every row, IS THE sha256 OF THE DUMP (.gsa) THAT YtfgcgagcpnbgmaaGreatDoorProg.lean LOADS. Nothing in Lean hashes anything: it is a label: what it is worth is what the hold of that sum in a sandbox is worth. -/
noncomputable def Tryz.pinned : Pinned := { name := "ytfgcgagcpnbgmaagreatdoor", sum := "8a7e890e18e4f04508aed99e43a571ca95b3ce44d29cc7a323edaf479151ee9d", checked := Tryz.checked }
namespace Rows
def none {H : Type} : Left H := { results := [], args := [] }

/- WHAT THE LISTED PACKAGE-LEVEL VARIABLES READ AS WHEN THE CALL BEGINS. Each datum BY PROGRAM (the guide's laid-datum.mjs) off the statement by which the dump's own 'gosem.cut.vars' lays the variable. In a bare row this is a premise. The card (YtfgcgagcpnbgmaaGreatDoorCards.lean) ties it to the program's text. -/
def laid_stopwatch_digest_start {H : Type} : DataW H := .agg [.lit (.int .u32 1779033703), .lit (.int .u32 3144134277), .lit (.int .u32 1013904242), .lit (.int .u32 2773480762), .lit (.int .u32 1359893119), .lit (.int .u32 2600822924), .lit (.int .u32 528734635), .lit (.int .u32 1541459225)]
def laid_stopwatch_digest_permutations {H : Type} : DataW H := .agg [.agg [.lit (.int .u8 0), .lit (.int .u8 1), .lit (.int .u8 2), .lit (.int .u8 3), .lit (.int .u8 4), .lit (.int .u8 5), .lit (.int .u8 6), .lit (.int .u8 7), .lit (.int .u8 8), .lit (.int .u8 9), .lit (.int .u8 10), .lit (.int .u8 11), .lit (.int .u8 12), .lit (.int .u8 13), .lit (.int .u8 14), .lit (.int .u8 15)], .agg [.lit (.int .u8 14), .lit (.int .u8 10), .lit (.int .u8 4), .lit (.int .u8 8), .lit (.int .u8 9), .lit (.int .u8 15), .lit (.int .u8 13), .lit (.int .u8 6), .lit (.int .u8 1), .lit (.int .u8 12), .lit (.int .u8 0), .lit (.int .u8 2), .lit (.int .u8 11), .lit (.int .u8 7), .lit (.int .u8 5), .lit (.int .u8 3)], .agg [.lit (.int .u8 11), .lit (.int .u8 8), .lit (.int .u8 12), .lit (.int .u8 0), .lit (.int .u8 5), .lit (.int .u8 2), .lit (.int .u8 15), .lit (.int .u8 13), .lit (.int .u8 10), .lit (.int .u8 14), .lit (.int .u8 3), .lit (.int .u8 6), .lit (.int .u8 7), .lit (.int .u8 1), .lit (.int .u8 9), .lit (.int .u8 4)], .agg [.lit (.int .u8 7), .lit (.int .u8 9), .lit (.int .u8 3), .lit (.int .u8 1), .lit (.int .u8 13), .lit (.int .u8 12), .lit (.int .u8 11), .lit (.int .u8 14), .lit (.int .u8 2), .lit (.int .u8 6), .lit (.int .u8 5), .lit (.int .u8 10), .lit (.int .u8 4), .lit (.int .u8 0), .lit (.int .u8 15), .lit (.int .u8 8)], .agg [.lit (.int .u8 9), .lit (.int .u8 0), .lit (.int .u8 5), .lit (.int .u8 7), .lit (.int .u8 2), .lit (.int .u8 4), .lit (.int .u8 10), .lit (.int .u8 15), .lit (.int .u8 14), .lit (.int .u8 1), .lit (.int .u8 11), .lit (.int .u8 12), .lit (.int .u8 6), .lit (.int .u8 8), .lit (.int .u8 3), .lit (.int .u8 13)], .agg [.lit (.int .u8 2), .lit (.int .u8 12), .lit (.int .u8 6), .lit (.int .u8 10), .lit (.int .u8 0), .lit (.int .u8 11), .lit (.int .u8 8), .lit (.int .u8 3), .lit (.int .u8 4), .lit (.int .u8 13), .lit (.int .u8 7), .lit (.int .u8 5), .lit (.int .u8 15), .lit (.int .u8 14), .lit (.int .u8 1), .lit (.int .u8 9)], .agg [.lit (.int .u8 12), .lit (.int .u8 5), .lit (.int .u8 1), .lit (.int .u8 15), .lit (.int .u8 14), .lit (.int .u8 13), .lit (.int .u8 4), .lit (.int .u8 10), .lit (.int .u8 0), .lit (.int .u8 7), .lit (.int .u8 6), .lit (.int .u8 3), .lit (.int .u8 9), .lit (.int .u8 2), .lit (.int .u8 8), .lit (.int .u8 11)], .agg [.lit (.int .u8 13), .lit (.int .u8 11), .lit (.int .u8 7), .lit (.int .u8 14), .lit (.int .u8 12), .lit (.int .u8 1), .lit (.int .u8 3), .lit (.int .u8 9), .lit (.int .u8 5), .lit (.int .u8 0), .lit (.int .u8 15), .lit (.int .u8 4), .lit (.int .u8 8), .lit (.int .u8 6), .lit (.int .u8 2), .lit (.int .u8 10)], .agg [.lit (.int .u8 6), .lit (.int .u8 15), .lit (.int .u8 14), .lit (.int .u8 9), .lit (.int .u8 11), .lit (.int .u8 3), .lit (.int .u8 0), .lit (.int .u8 8), .lit (.int .u8 12), .lit (.int .u8 2), .lit (.int .u8 13), .lit (.int .u8 7), .lit (.int .u8 1), .lit (.int .u8 4), .lit (.int .u8 10), .lit (.int .u8 5)], .agg [.lit (.int .u8 10), .lit (.int .u8 2), .lit (.int .u8 8), .lit (.int .u8 4), .lit (.int .u8 7), .lit (.int .u8 6), .lit (.int .u8 1), .lit (.int .u8 5), .lit (.int .u8 15), .lit (.int .u8 11), .lit (.int .u8 9), .lit (.int .u8 14), .lit (.int .u8 3), .lit (.int .u8 12), .lit (.int .u8 13), .lit (.int .u8 0)]]
def laid_stopwatch_facts_timeS {H : Type} : DataW H := .agg [.lit (.int .i64 (-1099511627776)), .lit (.int .i64 1099511627776)]
def laid_stopwatch_facts_lengthS {H : Type} : DataW H := .agg [.lit (.int .i64 0), .lit (.int .i64 1099511627776)]
def laid_stopwatch_facts_bibS {H : Type} : DataW H := .agg [.lit (.int .i64 1), .lit (.int .i64 9999)]
def laid_stopwatch_facts_matS {H : Type} : DataW H := .agg [.lit (.int .i64 0), .lit (.int .i64 39)]
def laid_stopwatch_facts_epochS {H : Type} : DataW H := .agg [.lit (.int .i64 0), .lit (.int .i64 255)]
def laid_stopwatch_facts_chipS {H : Type} : DataW H := .agg [.lit (.int .i64 0), .lit (.int .i64 1048576)]
def laid_stopwatch_facts_positionS {H : Type} : DataW H := .agg [.lit (.int .i64 0), .lit (.int .i64 255)]
def laid_stopwatch_facts_caseS {H : Type} : DataW H := .agg [.lit (.int .i64 1), .lit (.int .i64 1048576)]
def laid_stopwatch_facts_crewS {H : Type} : DataW H := .agg [.lit (.int .i64 0), .lit (.int .i64 31)]
def laid_stopwatch_facts_numberS {H : Type} : DataW H := .agg [.lit (.int .i64 1), .lit (.int .i64 1048576)]
def laid_stopwatch_facts_bitS {H : Type} : DataW H := .agg [.lit (.int .i64 0), .lit (.int .i64 1)]

/-- 'stopwatchlaw44.RemoteNewSpec': WHATEVER THE INPUT: true; the input reads as it did. -/
def remoteNewSpecSpec : ChangeSpec := { name := "remoteNewSpec", fn := fun _ => fun
  | [d1, d2, d3, d4] => { results := [.lit (.bool true)], args := [d1, d2, d3, d4] }
  | _ => none }
def remoteNewSpecRow : OpenClaim := { program := "ytfgcgagcpnbgmaagreatdoor", sum := "8a7e890e18e4f04508aed99e43a571ca95b3ce44d29cc7a323edaf479151ee9d", func := "stopwatch/stopwatchlaw44.RemoteNewSpec", spec := "remoteNewSpec", unfollowed := true, recurses := true, named := ["stopwatch/digest.start", "stopwatch/digest.permutations", "stopwatch/facts.crewS", "stopwatch/facts.numberS", "stopwatch/facts.lengthS", "stopwatch/facts.bibS", "stopwatch/facts.timeS", "stopwatch/facts.chipS", "stopwatch/facts.matS", "stopwatch/facts.epochS", "stopwatch/facts.positionS", "stopwatch/facts.caseS", "stopwatch/facts.bitS"], plainKeys := false, apart := false, laid := [("stopwatch/digest.start", laid_stopwatch_digest_start), ("stopwatch/digest.permutations", laid_stopwatch_digest_permutations), ("stopwatch/facts.timeS", laid_stopwatch_facts_timeS), ("stopwatch/facts.lengthS", laid_stopwatch_facts_lengthS), ("stopwatch/facts.bibS", laid_stopwatch_facts_bibS), ("stopwatch/facts.matS", laid_stopwatch_facts_matS), ("stopwatch/facts.epochS", laid_stopwatch_facts_epochS), ("stopwatch/facts.chipS", laid_stopwatch_facts_chipS), ("stopwatch/facts.positionS", laid_stopwatch_facts_positionS), ("stopwatch/facts.caseS", laid_stopwatch_facts_caseS), ("stopwatch/facts.crewS", laid_stopwatch_facts_crewS), ("stopwatch/facts.numberS", laid_stopwatch_facts_numberS), ("stopwatch/facts.bitS", laid_stopwatch_facts_bitS)] }
def RemoteNewSpecSaid : Prop := remoteNewSpecRow.holds Tryz.pinned (OpenSpec.ofChange remoteNewSpecSpec)

/-- ITS FALSE NEIGHBOUR: 'it returns false'. Refute it at one input. -/
def remoteNewSpecWrong : ChangeSpec := { name := "remoteNewSpec", fn := fun _ => fun
  | [d1, d2, d3, d4] => { results := [.lit (.bool false)], args := [d1, d2, d3, d4] }
  | _ => none }
def RemoteNewSpecWrongFalsely : Prop := remoteNewSpecRow.holds Tryz.pinned (OpenSpec.ofChange remoteNewSpecWrong)

/-- 'stopwatchlaw44.RemoteRecordSpec': WHATEVER THE INPUT: true; the input reads as it did. -/
def remoteRecordSpecSpec : ChangeSpec := { name := "remoteRecordSpec", fn := fun _ => fun
  | [d1, d2] => { results := [.lit (.bool true)], args := [d1, d2] }
  | _ => none }
def remoteRecordSpecRow : OpenClaim := { program := "ytfgcgagcpnbgmaagreatdoor", sum := "8a7e890e18e4f04508aed99e43a571ca95b3ce44d29cc7a323edaf479151ee9d", func := "stopwatch/stopwatchlaw44.RemoteRecordSpec", spec := "remoteRecordSpec", unfollowed := true, recurses := true, named := ["stopwatch/digest.start", "stopwatch/digest.permutations", "stopwatch/facts.crewS", "stopwatch/facts.numberS", "stopwatch/facts.lengthS", "stopwatch/facts.bibS", "stopwatch/facts.timeS", "stopwatch/facts.chipS", "stopwatch/facts.matS", "stopwatch/facts.epochS", "stopwatch/facts.positionS", "stopwatch/facts.caseS", "stopwatch/facts.bitS"], plainKeys := false, apart := false, laid := [("stopwatch/digest.start", laid_stopwatch_digest_start), ("stopwatch/digest.permutations", laid_stopwatch_digest_permutations), ("stopwatch/facts.timeS", laid_stopwatch_facts_timeS), ("stopwatch/facts.lengthS", laid_stopwatch_facts_lengthS), ("stopwatch/facts.bibS", laid_stopwatch_facts_bibS), ("stopwatch/facts.matS", laid_stopwatch_facts_matS), ("stopwatch/facts.epochS", laid_stopwatch_facts_epochS), ("stopwatch/facts.chipS", laid_stopwatch_facts_chipS), ("stopwatch/facts.positionS", laid_stopwatch_facts_positionS), ("stopwatch/facts.caseS", laid_stopwatch_facts_caseS), ("stopwatch/facts.crewS", laid_stopwatch_facts_crewS), ("stopwatch/facts.numberS", laid_stopwatch_facts_numberS), ("stopwatch/facts.bitS", laid_stopwatch_facts_bitS)] }
def RemoteRecordSpecSaid : Prop := remoteRecordSpecRow.holds Tryz.pinned (OpenSpec.ofChange remoteRecordSpecSpec)

/-- ITS FALSE NEIGHBOUR: 'it returns false'. Refute it at one input. -/
def remoteRecordSpecWrong : ChangeSpec := { name := "remoteRecordSpec", fn := fun _ => fun
  | [d1, d2] => { results := [.lit (.bool false)], args := [d1, d2] }
  | _ => none }
def RemoteRecordSpecWrongFalsely : Prop := remoteRecordSpecRow.holds Tryz.pinned (OpenSpec.ofChange remoteRecordSpecWrong)

/-- 'stopwatchlaw44.RemoteBatchSpec': WHATEVER THE INPUT: true; the input reads as it did. -/
def remoteBatchSpecSpec : ChangeSpec := { name := "remoteBatchSpec", fn := fun _ => fun
  | [d1, d2] => { results := [.lit (.bool true)], args := [d1, d2] }
  | _ => none }
def remoteBatchSpecRow : OpenClaim := { program := "ytfgcgagcpnbgmaagreatdoor", sum := "8a7e890e18e4f04508aed99e43a571ca95b3ce44d29cc7a323edaf479151ee9d", func := "stopwatch/stopwatchlaw44.RemoteBatchSpec", spec := "remoteBatchSpec", unfollowed := true, recurses := true, named := ["stopwatch/digest.start", "stopwatch/digest.permutations", "stopwatch/facts.crewS", "stopwatch/facts.numberS", "stopwatch/facts.lengthS", "stopwatch/facts.bibS", "stopwatch/facts.timeS", "stopwatch/facts.chipS", "stopwatch/facts.matS", "stopwatch/facts.epochS", "stopwatch/facts.positionS", "stopwatch/facts.caseS", "stopwatch/facts.bitS"], plainKeys := false, apart := false, laid := [("stopwatch/digest.start", laid_stopwatch_digest_start), ("stopwatch/digest.permutations", laid_stopwatch_digest_permutations), ("stopwatch/facts.timeS", laid_stopwatch_facts_timeS), ("stopwatch/facts.lengthS", laid_stopwatch_facts_lengthS), ("stopwatch/facts.bibS", laid_stopwatch_facts_bibS), ("stopwatch/facts.matS", laid_stopwatch_facts_matS), ("stopwatch/facts.epochS", laid_stopwatch_facts_epochS), ("stopwatch/facts.chipS", laid_stopwatch_facts_chipS), ("stopwatch/facts.positionS", laid_stopwatch_facts_positionS), ("stopwatch/facts.caseS", laid_stopwatch_facts_caseS), ("stopwatch/facts.crewS", laid_stopwatch_facts_crewS), ("stopwatch/facts.numberS", laid_stopwatch_facts_numberS), ("stopwatch/facts.bitS", laid_stopwatch_facts_bitS)] }
def RemoteBatchSpecSaid : Prop := remoteBatchSpecRow.holds Tryz.pinned (OpenSpec.ofChange remoteBatchSpecSpec)

/-- ITS FALSE NEIGHBOUR: 'it returns false'. Refute it at one input. -/
def remoteBatchSpecWrong : ChangeSpec := { name := "remoteBatchSpec", fn := fun _ => fun
  | [d1, d2] => { results := [.lit (.bool false)], args := [d1, d2] }
  | _ => none }
def RemoteBatchSpecWrongFalsely : Prop := remoteBatchSpecRow.holds Tryz.pinned (OpenSpec.ofChange remoteBatchSpecWrong)

/-- 'stopwatchlaw44.RemoteAgain': WHATEVER THE INPUT: true; the input reads as it did. -/
def remoteAgainSpec : ChangeSpec := { name := "remoteAgain", fn := fun _ => fun
  | [d1, d2] => { results := [.lit (.bool true)], args := [d1, d2] }
  | _ => none }
def remoteAgainRow : OpenClaim := { program := "ytfgcgagcpnbgmaagreatdoor", sum := "8a7e890e18e4f04508aed99e43a571ca95b3ce44d29cc7a323edaf479151ee9d", func := "stopwatch/stopwatchlaw44.RemoteAgain", spec := "remoteAgain", unfollowed := true, recurses := true, named := ["stopwatch/digest.start", "stopwatch/digest.permutations", "stopwatch/facts.crewS", "stopwatch/facts.numberS", "stopwatch/facts.lengthS", "stopwatch/facts.bibS", "stopwatch/facts.timeS", "stopwatch/facts.chipS", "stopwatch/facts.matS", "stopwatch/facts.epochS", "stopwatch/facts.positionS", "stopwatch/facts.caseS", "stopwatch/facts.bitS"], plainKeys := false, apart := false, laid := [("stopwatch/digest.start", laid_stopwatch_digest_start), ("stopwatch/digest.permutations", laid_stopwatch_digest_permutations), ("stopwatch/facts.timeS", laid_stopwatch_facts_timeS), ("stopwatch/facts.lengthS", laid_stopwatch_facts_lengthS), ("stopwatch/facts.bibS", laid_stopwatch_facts_bibS), ("stopwatch/facts.matS", laid_stopwatch_facts_matS), ("stopwatch/facts.epochS", laid_stopwatch_facts_epochS), ("stopwatch/facts.chipS", laid_stopwatch_facts_chipS), ("stopwatch/facts.positionS", laid_stopwatch_facts_positionS), ("stopwatch/facts.caseS", laid_stopwatch_facts_caseS), ("stopwatch/facts.crewS", laid_stopwatch_facts_crewS), ("stopwatch/facts.numberS", laid_stopwatch_facts_numberS), ("stopwatch/facts.bitS", laid_stopwatch_facts_bitS)] }
def RemoteAgainSaid : Prop := remoteAgainRow.holds Tryz.pinned (OpenSpec.ofChange remoteAgainSpec)

/-- ITS FALSE NEIGHBOUR: 'it returns false'. Refute it at one input. -/
def remoteAgainWrong : ChangeSpec := { name := "remoteAgain", fn := fun _ => fun
  | [d1, d2] => { results := [.lit (.bool false)], args := [d1, d2] }
  | _ => none }
def RemoteAgainWrongFalsely : Prop := remoteAgainRow.holds Tryz.pinned (OpenSpec.ofChange remoteAgainWrong)

/-- 'stopwatchlaw44.RemoteAltered': WHATEVER THE INPUT: true; the input reads as it did. -/
def remoteAlteredSpec : ChangeSpec := { name := "remoteAltered", fn := fun _ => fun
  | [d1, d2, d3, d4] => { results := [.lit (.bool true)], args := [d1, d2, d3, d4] }
  | _ => none }
def remoteAlteredRow : OpenClaim := { program := "ytfgcgagcpnbgmaagreatdoor", sum := "8a7e890e18e4f04508aed99e43a571ca95b3ce44d29cc7a323edaf479151ee9d", func := "stopwatch/stopwatchlaw44.RemoteAltered", spec := "remoteAltered", unfollowed := true, recurses := true, named := ["stopwatch/digest.start", "stopwatch/digest.permutations", "stopwatch/facts.crewS", "stopwatch/facts.numberS", "stopwatch/facts.lengthS", "stopwatch/facts.bibS", "stopwatch/facts.timeS", "stopwatch/facts.chipS", "stopwatch/facts.matS", "stopwatch/facts.epochS", "stopwatch/facts.positionS", "stopwatch/facts.caseS", "stopwatch/facts.bitS"], plainKeys := false, apart := false, laid := [("stopwatch/digest.start", laid_stopwatch_digest_start), ("stopwatch/digest.permutations", laid_stopwatch_digest_permutations), ("stopwatch/facts.timeS", laid_stopwatch_facts_timeS), ("stopwatch/facts.lengthS", laid_stopwatch_facts_lengthS), ("stopwatch/facts.bibS", laid_stopwatch_facts_bibS), ("stopwatch/facts.matS", laid_stopwatch_facts_matS), ("stopwatch/facts.epochS", laid_stopwatch_facts_epochS), ("stopwatch/facts.chipS", laid_stopwatch_facts_chipS), ("stopwatch/facts.positionS", laid_stopwatch_facts_positionS), ("stopwatch/facts.caseS", laid_stopwatch_facts_caseS), ("stopwatch/facts.crewS", laid_stopwatch_facts_crewS), ("stopwatch/facts.numberS", laid_stopwatch_facts_numberS), ("stopwatch/facts.bitS", laid_stopwatch_facts_bitS)] }
def RemoteAlteredSaid : Prop := remoteAlteredRow.holds Tryz.pinned (OpenSpec.ofChange remoteAlteredSpec)

/-- ITS FALSE NEIGHBOUR: 'it returns false'. Refute it at one input. -/
def remoteAlteredWrong : ChangeSpec := { name := "remoteAltered", fn := fun _ => fun
  | [d1, d2, d3, d4] => { results := [.lit (.bool false)], args := [d1, d2, d3, d4] }
  | _ => none }
def RemoteAlteredWrongFalsely : Prop := remoteAlteredRow.holds Tryz.pinned (OpenSpec.ofChange remoteAlteredWrong)

/-- 'stopwatchlaw44.RemoteNumbers': WHATEVER THE INPUT: true; the input reads as it did. -/
def remoteNumbersSpec : ChangeSpec := { name := "remoteNumbers", fn := fun _ => fun
  | [d] => { results := [.lit (.bool true)], args := [d] }
  | _ => none }
def remoteNumbersRow : OpenClaim := { program := "ytfgcgagcpnbgmaagreatdoor", sum := "8a7e890e18e4f04508aed99e43a571ca95b3ce44d29cc7a323edaf479151ee9d", func := "stopwatch/stopwatchlaw44.RemoteNumbers", spec := "remoteNumbers", unfollowed := true, recurses := true, named := ["stopwatch/digest.start", "stopwatch/digest.permutations", "stopwatch/facts.crewS", "stopwatch/facts.numberS", "stopwatch/facts.lengthS", "stopwatch/facts.bibS", "stopwatch/facts.timeS", "stopwatch/facts.chipS", "stopwatch/facts.matS", "stopwatch/facts.epochS", "stopwatch/facts.positionS", "stopwatch/facts.caseS", "stopwatch/facts.bitS"], plainKeys := false, apart := false, laid := [("stopwatch/digest.start", laid_stopwatch_digest_start), ("stopwatch/digest.permutations", laid_stopwatch_digest_permutations), ("stopwatch/facts.timeS", laid_stopwatch_facts_timeS), ("stopwatch/facts.lengthS", laid_stopwatch_facts_lengthS), ("stopwatch/facts.bibS", laid_stopwatch_facts_bibS), ("stopwatch/facts.matS", laid_stopwatch_facts_matS), ("stopwatch/facts.epochS", laid_stopwatch_facts_epochS), ("stopwatch/facts.chipS", laid_stopwatch_facts_chipS), ("stopwatch/facts.positionS", laid_stopwatch_facts_positionS), ("stopwatch/facts.caseS", laid_stopwatch_facts_caseS), ("stopwatch/facts.crewS", laid_stopwatch_facts_crewS), ("stopwatch/facts.numberS", laid_stopwatch_facts_numberS), ("stopwatch/facts.bitS", laid_stopwatch_facts_bitS)] }
def RemoteNumbersSaid : Prop := remoteNumbersRow.holds Tryz.pinned (OpenSpec.ofChange remoteNumbersSpec)

/-- ITS FALSE NEIGHBOUR: 'it returns false'. Refute it at one input. -/
def remoteNumbersWrong : ChangeSpec := { name := "remoteNumbers", fn := fun _ => fun
  | [d] => { results := [.lit (.bool false)], args := [d] }
  | _ => none }
def RemoteNumbersWrongFalsely : Prop := remoteNumbersRow.holds Tryz.pinned (OpenSpec.ofChange remoteNumbersWrong)

/-- 'stopwatchlaw44.RemoteDurable': WHATEVER THE INPUT: true; the input reads as it did. -/
def remoteDurableSpec : ChangeSpec := { name := "remoteDurable", fn := fun _ => fun
  | [d] => { results := [.lit (.bool true)], args := [d] }
  | _ => none }
def remoteDurableRow : OpenClaim := { program := "ytfgcgagcpnbgmaagreatdoor", sum := "8a7e890e18e4f04508aed99e43a571ca95b3ce44d29cc7a323edaf479151ee9d", func := "stopwatch/stopwatchlaw44.RemoteDurable", spec := "remoteDurable", inPlace := ["internal/bytealg.Compare", "slices.overlaps[stopwatch/api.Signed]"], unfollowed := true, recurses := true, named := ["stopwatch/digest.start", "stopwatch/digest.permutations", "stopwatch/facts.crewS", "stopwatch/facts.numberS", "stopwatch/facts.lengthS", "stopwatch/facts.bibS", "stopwatch/facts.timeS", "stopwatch/facts.chipS", "stopwatch/facts.matS", "stopwatch/facts.epochS", "stopwatch/facts.positionS", "stopwatch/facts.caseS", "stopwatch/facts.bitS"], plainKeys := false, apart := false, laid := [("stopwatch/digest.start", laid_stopwatch_digest_start), ("stopwatch/digest.permutations", laid_stopwatch_digest_permutations), ("stopwatch/facts.timeS", laid_stopwatch_facts_timeS), ("stopwatch/facts.lengthS", laid_stopwatch_facts_lengthS), ("stopwatch/facts.bibS", laid_stopwatch_facts_bibS), ("stopwatch/facts.matS", laid_stopwatch_facts_matS), ("stopwatch/facts.epochS", laid_stopwatch_facts_epochS), ("stopwatch/facts.chipS", laid_stopwatch_facts_chipS), ("stopwatch/facts.positionS", laid_stopwatch_facts_positionS), ("stopwatch/facts.caseS", laid_stopwatch_facts_caseS), ("stopwatch/facts.crewS", laid_stopwatch_facts_crewS), ("stopwatch/facts.numberS", laid_stopwatch_facts_numberS), ("stopwatch/facts.bitS", laid_stopwatch_facts_bitS)] }
def RemoteDurableSaid : Prop := remoteDurableRow.holds Tryz.pinned (OpenSpec.ofChange remoteDurableSpec)

/-- ITS FALSE NEIGHBOUR: 'it returns false'. Refute it at one input. -/
def remoteDurableWrong : ChangeSpec := { name := "remoteDurable", fn := fun _ => fun
  | [d] => { results := [.lit (.bool false)], args := [d] }
  | _ => none }
def RemoteDurableWrongFalsely : Prop := remoteDurableRow.holds Tryz.pinned (OpenSpec.ofChange remoteDurableWrong)

/- THE SECOND FORM. 'bulk': how many values and letters a reading holds, each counted each time it is reached (what is shared counts as often as it is met; a slice's spare places count too). A statement '..UptoSaid' is the law's where the arguments, and the package variables that the reading takes, are together of bulk at most 1048576: NARROWER than '..Said'. Prove '..Said' where nothing that the law and all that it calls make is longer than what came in: it says more and counts as full. Else prove '..UptoSaid'. A law counts once. -/
mutual
def uptoBulk {H : Type} : DataW H → Nat
  | .lit (.string bytes) => bytes.length + 1
  | .lit _ => 1
  | .nil => 1
  | .ptr d => uptoBulk d + 1
  | .slice elems spare => uptoBulkAll elems + uptoBulkAll spare + 1
  | .agg parts => uptoBulkAll parts + 1
  | .iface _ d => uptoBulk d + 1
  | .map entries => uptoBulkEntries entries + 1
  | .held _ => 1
def uptoBulkAll {H : Type} : List (DataW H) → Nat
  | [] => 0
  | d :: r => uptoBulk d + uptoBulkAll r
def uptoBulkEntries {H : Type} : List (Lit × DataW H) → Nat
  | [] => 0
  | x :: r => uptoBulkEntry x + uptoBulkEntries r
def uptoBulkEntry {H : Type} : Lit × DataW H → Nat
  | (.string bytes, d) => bytes.length + uptoBulk d + 1
  | (_, d) => uptoBulk d + 1
 end
def uptoSmall : (H : Type) → List (DataW H) → Bool := fun _ ds => decide (uptoBulkAll ds ≤ 1048576)
def OpenSpec.upto (s : _root_.Go.ChangeSpec) : _root_.Go.OpenSpec := { _root_.Go.OpenSpec.ofChange s with cond := some uptoSmall }

/-- 'stopwatchlaw44.RemoteNewSpec', WHERE WHAT IT READS IS OF BULK AT MOST 1048576: true; the input reads as it did. -/
def remoteNewSpecUptoRow : OpenClaim := { program := "ytfgcgagcpnbgmaagreatdoor", sum := "8a7e890e18e4f04508aed99e43a571ca95b3ce44d29cc7a323edaf479151ee9d", func := "stopwatch/stopwatchlaw44.RemoteNewSpec", spec := "remoteNewSpec", unfollowed := true, recurses := true, named := ["stopwatch/digest.start", "stopwatch/digest.permutations", "stopwatch/facts.crewS", "stopwatch/facts.numberS", "stopwatch/facts.lengthS", "stopwatch/facts.bibS", "stopwatch/facts.timeS", "stopwatch/facts.chipS", "stopwatch/facts.matS", "stopwatch/facts.epochS", "stopwatch/facts.positionS", "stopwatch/facts.caseS", "stopwatch/facts.bitS"], plainKeys := false, apart := false, laid := [("stopwatch/digest.start", laid_stopwatch_digest_start), ("stopwatch/digest.permutations", laid_stopwatch_digest_permutations), ("stopwatch/facts.timeS", laid_stopwatch_facts_timeS), ("stopwatch/facts.lengthS", laid_stopwatch_facts_lengthS), ("stopwatch/facts.bibS", laid_stopwatch_facts_bibS), ("stopwatch/facts.matS", laid_stopwatch_facts_matS), ("stopwatch/facts.epochS", laid_stopwatch_facts_epochS), ("stopwatch/facts.chipS", laid_stopwatch_facts_chipS), ("stopwatch/facts.positionS", laid_stopwatch_facts_positionS), ("stopwatch/facts.caseS", laid_stopwatch_facts_caseS), ("stopwatch/facts.crewS", laid_stopwatch_facts_crewS), ("stopwatch/facts.numberS", laid_stopwatch_facts_numberS), ("stopwatch/facts.bitS", laid_stopwatch_facts_bitS)], narrowed := true }
def RemoteNewSpecUptoSaid : Prop := remoteNewSpecUptoRow.holds Tryz.pinned (OpenSpec.upto remoteNewSpecSpec)

/-- 'stopwatchlaw44.RemoteRecordSpec', WHERE WHAT IT READS IS OF BULK AT MOST 1048576: true; the input reads as it did. -/
def remoteRecordSpecUptoRow : OpenClaim := { program := "ytfgcgagcpnbgmaagreatdoor", sum := "8a7e890e18e4f04508aed99e43a571ca95b3ce44d29cc7a323edaf479151ee9d", func := "stopwatch/stopwatchlaw44.RemoteRecordSpec", spec := "remoteRecordSpec", unfollowed := true, recurses := true, named := ["stopwatch/digest.start", "stopwatch/digest.permutations", "stopwatch/facts.crewS", "stopwatch/facts.numberS", "stopwatch/facts.lengthS", "stopwatch/facts.bibS", "stopwatch/facts.timeS", "stopwatch/facts.chipS", "stopwatch/facts.matS", "stopwatch/facts.epochS", "stopwatch/facts.positionS", "stopwatch/facts.caseS", "stopwatch/facts.bitS"], plainKeys := false, apart := false, laid := [("stopwatch/digest.start", laid_stopwatch_digest_start), ("stopwatch/digest.permutations", laid_stopwatch_digest_permutations), ("stopwatch/facts.timeS", laid_stopwatch_facts_timeS), ("stopwatch/facts.lengthS", laid_stopwatch_facts_lengthS), ("stopwatch/facts.bibS", laid_stopwatch_facts_bibS), ("stopwatch/facts.matS", laid_stopwatch_facts_matS), ("stopwatch/facts.epochS", laid_stopwatch_facts_epochS), ("stopwatch/facts.chipS", laid_stopwatch_facts_chipS), ("stopwatch/facts.positionS", laid_stopwatch_facts_positionS), ("stopwatch/facts.caseS", laid_stopwatch_facts_caseS), ("stopwatch/facts.crewS", laid_stopwatch_facts_crewS), ("stopwatch/facts.numberS", laid_stopwatch_facts_numberS), ("stopwatch/facts.bitS", laid_stopwatch_facts_bitS)], narrowed := true }
def RemoteRecordSpecUptoSaid : Prop := remoteRecordSpecUptoRow.holds Tryz.pinned (OpenSpec.upto remoteRecordSpecSpec)

/-- 'stopwatchlaw44.RemoteBatchSpec', WHERE WHAT IT READS IS OF BULK AT MOST 1048576: true; the input reads as it did. -/
def remoteBatchSpecUptoRow : OpenClaim := { program := "ytfgcgagcpnbgmaagreatdoor", sum := "8a7e890e18e4f04508aed99e43a571ca95b3ce44d29cc7a323edaf479151ee9d", func := "stopwatch/stopwatchlaw44.RemoteBatchSpec", spec := "remoteBatchSpec", unfollowed := true, recurses := true, named := ["stopwatch/digest.start", "stopwatch/digest.permutations", "stopwatch/facts.crewS", "stopwatch/facts.numberS", "stopwatch/facts.lengthS", "stopwatch/facts.bibS", "stopwatch/facts.timeS", "stopwatch/facts.chipS", "stopwatch/facts.matS", "stopwatch/facts.epochS", "stopwatch/facts.positionS", "stopwatch/facts.caseS", "stopwatch/facts.bitS"], plainKeys := false, apart := false, laid := [("stopwatch/digest.start", laid_stopwatch_digest_start), ("stopwatch/digest.permutations", laid_stopwatch_digest_permutations), ("stopwatch/facts.timeS", laid_stopwatch_facts_timeS), ("stopwatch/facts.lengthS", laid_stopwatch_facts_lengthS), ("stopwatch/facts.bibS", laid_stopwatch_facts_bibS), ("stopwatch/facts.matS", laid_stopwatch_facts_matS), ("stopwatch/facts.epochS", laid_stopwatch_facts_epochS), ("stopwatch/facts.chipS", laid_stopwatch_facts_chipS), ("stopwatch/facts.positionS", laid_stopwatch_facts_positionS), ("stopwatch/facts.caseS", laid_stopwatch_facts_caseS), ("stopwatch/facts.crewS", laid_stopwatch_facts_crewS), ("stopwatch/facts.numberS", laid_stopwatch_facts_numberS), ("stopwatch/facts.bitS", laid_stopwatch_facts_bitS)], narrowed := true }
def RemoteBatchSpecUptoSaid : Prop := remoteBatchSpecUptoRow.holds Tryz.pinned (OpenSpec.upto remoteBatchSpecSpec)

/-- 'stopwatchlaw44.RemoteAgain', WHERE WHAT IT READS IS OF BULK AT MOST 1048576: true; the input reads as it did. -/
def remoteAgainUptoRow : OpenClaim := { program := "ytfgcgagcpnbgmaagreatdoor", sum := "8a7e890e18e4f04508aed99e43a571ca95b3ce44d29cc7a323edaf479151ee9d", func := "stopwatch/stopwatchlaw44.RemoteAgain", spec := "remoteAgain", unfollowed := true, recurses := true, named := ["stopwatch/digest.start", "stopwatch/digest.permutations", "stopwatch/facts.crewS", "stopwatch/facts.numberS", "stopwatch/facts.lengthS", "stopwatch/facts.bibS", "stopwatch/facts.timeS", "stopwatch/facts.chipS", "stopwatch/facts.matS", "stopwatch/facts.epochS", "stopwatch/facts.positionS", "stopwatch/facts.caseS", "stopwatch/facts.bitS"], plainKeys := false, apart := false, laid := [("stopwatch/digest.start", laid_stopwatch_digest_start), ("stopwatch/digest.permutations", laid_stopwatch_digest_permutations), ("stopwatch/facts.timeS", laid_stopwatch_facts_timeS), ("stopwatch/facts.lengthS", laid_stopwatch_facts_lengthS), ("stopwatch/facts.bibS", laid_stopwatch_facts_bibS), ("stopwatch/facts.matS", laid_stopwatch_facts_matS), ("stopwatch/facts.epochS", laid_stopwatch_facts_epochS), ("stopwatch/facts.chipS", laid_stopwatch_facts_chipS), ("stopwatch/facts.positionS", laid_stopwatch_facts_positionS), ("stopwatch/facts.caseS", laid_stopwatch_facts_caseS), ("stopwatch/facts.crewS", laid_stopwatch_facts_crewS), ("stopwatch/facts.numberS", laid_stopwatch_facts_numberS), ("stopwatch/facts.bitS", laid_stopwatch_facts_bitS)], narrowed := true }
def RemoteAgainUptoSaid : Prop := remoteAgainUptoRow.holds Tryz.pinned (OpenSpec.upto remoteAgainSpec)

/-- 'stopwatchlaw44.RemoteAltered', WHERE WHAT IT READS IS OF BULK AT MOST 1048576: true; the input reads as it did. -/
def remoteAlteredUptoRow : OpenClaim := { program := "ytfgcgagcpnbgmaagreatdoor", sum := "8a7e890e18e4f04508aed99e43a571ca95b3ce44d29cc7a323edaf479151ee9d", func := "stopwatch/stopwatchlaw44.RemoteAltered", spec := "remoteAltered", unfollowed := true, recurses := true, named := ["stopwatch/digest.start", "stopwatch/digest.permutations", "stopwatch/facts.crewS", "stopwatch/facts.numberS", "stopwatch/facts.lengthS", "stopwatch/facts.bibS", "stopwatch/facts.timeS", "stopwatch/facts.chipS", "stopwatch/facts.matS", "stopwatch/facts.epochS", "stopwatch/facts.positionS", "stopwatch/facts.caseS", "stopwatch/facts.bitS"], plainKeys := false, apart := false, laid := [("stopwatch/digest.start", laid_stopwatch_digest_start), ("stopwatch/digest.permutations", laid_stopwatch_digest_permutations), ("stopwatch/facts.timeS", laid_stopwatch_facts_timeS), ("stopwatch/facts.lengthS", laid_stopwatch_facts_lengthS), ("stopwatch/facts.bibS", laid_stopwatch_facts_bibS), ("stopwatch/facts.matS", laid_stopwatch_facts_matS), ("stopwatch/facts.epochS", laid_stopwatch_facts_epochS), ("stopwatch/facts.chipS", laid_stopwatch_facts_chipS), ("stopwatch/facts.positionS", laid_stopwatch_facts_positionS), ("stopwatch/facts.caseS", laid_stopwatch_facts_caseS), ("stopwatch/facts.crewS", laid_stopwatch_facts_crewS), ("stopwatch/facts.numberS", laid_stopwatch_facts_numberS), ("stopwatch/facts.bitS", laid_stopwatch_facts_bitS)], narrowed := true }
def RemoteAlteredUptoSaid : Prop := remoteAlteredUptoRow.holds Tryz.pinned (OpenSpec.upto remoteAlteredSpec)

/-- 'stopwatchlaw44.RemoteNumbers', WHERE WHAT IT READS IS OF BULK AT MOST 1048576: true; the input reads as it did. -/
def remoteNumbersUptoRow : OpenClaim := { program := "ytfgcgagcpnbgmaagreatdoor", sum := "8a7e890e18e4f04508aed99e43a571ca95b3ce44d29cc7a323edaf479151ee9d", func := "stopwatch/stopwatchlaw44.RemoteNumbers", spec := "remoteNumbers", unfollowed := true, recurses := true, named := ["stopwatch/digest.start", "stopwatch/digest.permutations", "stopwatch/facts.crewS", "stopwatch/facts.numberS", "stopwatch/facts.lengthS", "stopwatch/facts.bibS", "stopwatch/facts.timeS", "stopwatch/facts.chipS", "stopwatch/facts.matS", "stopwatch/facts.epochS", "stopwatch/facts.positionS", "stopwatch/facts.caseS", "stopwatch/facts.bitS"], plainKeys := false, apart := false, laid := [("stopwatch/digest.start", laid_stopwatch_digest_start), ("stopwatch/digest.permutations", laid_stopwatch_digest_permutations), ("stopwatch/facts.timeS", laid_stopwatch_facts_timeS), ("stopwatch/facts.lengthS", laid_stopwatch_facts_lengthS), ("stopwatch/facts.bibS", laid_stopwatch_facts_bibS), ("stopwatch/facts.matS", laid_stopwatch_facts_matS), ("stopwatch/facts.epochS", laid_stopwatch_facts_epochS), ("stopwatch/facts.chipS", laid_stopwatch_facts_chipS), ("stopwatch/facts.positionS", laid_stopwatch_facts_positionS), ("stopwatch/facts.caseS", laid_stopwatch_facts_caseS), ("stopwatch/facts.crewS", laid_stopwatch_facts_crewS), ("stopwatch/facts.numberS", laid_stopwatch_facts_numberS), ("stopwatch/facts.bitS", laid_stopwatch_facts_bitS)], narrowed := true }
def RemoteNumbersUptoSaid : Prop := remoteNumbersUptoRow.holds Tryz.pinned (OpenSpec.upto remoteNumbersSpec)

/-- 'stopwatchlaw44.RemoteDurable', WHERE WHAT IT READS IS OF BULK AT MOST 1048576: true; the input reads as it did. -/
def remoteDurableUptoRow : OpenClaim := { program := "ytfgcgagcpnbgmaagreatdoor", sum := "8a7e890e18e4f04508aed99e43a571ca95b3ce44d29cc7a323edaf479151ee9d", func := "stopwatch/stopwatchlaw44.RemoteDurable", spec := "remoteDurable", inPlace := ["internal/bytealg.Compare", "slices.overlaps[stopwatch/api.Signed]"], unfollowed := true, recurses := true, named := ["stopwatch/digest.start", "stopwatch/digest.permutations", "stopwatch/facts.crewS", "stopwatch/facts.numberS", "stopwatch/facts.lengthS", "stopwatch/facts.bibS", "stopwatch/facts.timeS", "stopwatch/facts.chipS", "stopwatch/facts.matS", "stopwatch/facts.epochS", "stopwatch/facts.positionS", "stopwatch/facts.caseS", "stopwatch/facts.bitS"], plainKeys := false, apart := false, laid := [("stopwatch/digest.start", laid_stopwatch_digest_start), ("stopwatch/digest.permutations", laid_stopwatch_digest_permutations), ("stopwatch/facts.timeS", laid_stopwatch_facts_timeS), ("stopwatch/facts.lengthS", laid_stopwatch_facts_lengthS), ("stopwatch/facts.bibS", laid_stopwatch_facts_bibS), ("stopwatch/facts.matS", laid_stopwatch_facts_matS), ("stopwatch/facts.epochS", laid_stopwatch_facts_epochS), ("stopwatch/facts.chipS", laid_stopwatch_facts_chipS), ("stopwatch/facts.positionS", laid_stopwatch_facts_positionS), ("stopwatch/facts.caseS", laid_stopwatch_facts_caseS), ("stopwatch/facts.crewS", laid_stopwatch_facts_crewS), ("stopwatch/facts.numberS", laid_stopwatch_facts_numberS), ("stopwatch/facts.bitS", laid_stopwatch_facts_bitS)], narrowed := true }
def RemoteDurableUptoSaid : Prop := remoteDurableUptoRow.holds Tryz.pinned (OpenSpec.upto remoteDurableSpec)

end Rows
end Go.Proofs.YtfgcgagcpnbgmaaGreatDoor
