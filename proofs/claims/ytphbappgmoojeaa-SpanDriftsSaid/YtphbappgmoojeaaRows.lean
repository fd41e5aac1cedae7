/-
  No cell of these rows narrows 'for every input' (looked for: loops, veiled, ifaces, maps, wideKeys, modest, calm, conditions, laid).
  DERIVED. THE GIVEN ROWS OF THIS SEAT. 8 by the template 'for every input the law returns true; each argument reads behind the call as it read before'; 0 by the template 'total and deterministic' (their statements: YtphbappgmoojeaaTotals.lean).
  GIVEN WITH THE SEED: the statements are not yours to turn. If you find one false, say at which input.
  Laid BY PROGRAM, IN A SANDBOX (cutbox-rows.mjs): the forced cells as the released guide's own fill.sh prints them over the translation f2424c858e1cb37a… (all of the seat's roots in one cut). By AI agents, Wed Nov 11 2026. No macro, syntax, notation, axiom, sorry.
-/
import Derived.Test.YtphbappgmoojeaaChecked
import GoSem.Claim
import GoSem.ClaimJoined
import GoSem.ClaimMapViews
import Derived.JoinedTies
import Derived.KernelRfl
namespace Go.Proofs.Ytphbappgmoojeaa
/- THE CELL 'sum', in the pinned program and in every row, IS THE sha256 OF THE DUMP (.gsa) THAT YtphbappgmoojeaaProg.lean LOADS. Nothing in Lean hashes anything: it is a label: what it is worth is what the hold of that sum in a sandbox is worth. -/
noncomputable def Try.pinned : Pinned := { name := "ytphbappgmoojeaa", sum := "f2424c858e1cb37a8d1f9acae1cf904656e4d6fe492d3dce51ec3d988db4e7e0", checked := Try.checked }
namespace Rows
def none {H : Type} : Left H := { results := [], args := [] }

/-- 'stopwatchlaw01.SpanAddSpec': WHATEVER THE INPUT: true; the input reads as it did. -/
def spanAddSpecSpec : ChangeSpec := { name := "spanAddSpec", fn := fun _ => fun
  | [d1, d2, d3] => { results := [.lit (.bool true)], args := [d1, d2, d3] }
  | _ => none }
def spanAddSpecRow : OpenClaim := { program := "ytphbappgmoojeaa", sum := "f2424c858e1cb37a8d1f9acae1cf904656e4d6fe492d3dce51ec3d988db4e7e0", func := "stopwatch/stopwatchlaw01.SpanAddSpec", spec := "spanAddSpec", unfollowed := true, recurses := true, apart := false }
def SpanAddSpecSaid : Prop := spanAddSpecRow.holds Try.pinned (OpenSpec.ofChange spanAddSpecSpec)

/-- ITS FALSE NEIGHBOUR: 'it returns false'. Refute it at one input. -/
def spanAddSpecWrong : ChangeSpec := { name := "spanAddSpec", fn := fun _ => fun
  | [d1, d2, d3] => { results := [.lit (.bool false)], args := [d1, d2, d3] }
  | _ => none }
def SpanAddSpecWrongFalsely : Prop := spanAddSpecRow.holds Try.pinned (OpenSpec.ofChange spanAddSpecWrong)

/-- 'stopwatchlaw01.SpanDriftSpec': WHATEVER THE INPUT: true; the input reads as it did. -/
def spanDriftSpecSpec : ChangeSpec := { name := "spanDriftSpec", fn := fun _ => fun
  | [d1, d2] => { results := [.lit (.bool true)], args := [d1, d2] }
  | _ => none }
def spanDriftSpecRow : OpenClaim := { program := "ytphbappgmoojeaa", sum := "f2424c858e1cb37a8d1f9acae1cf904656e4d6fe492d3dce51ec3d988db4e7e0", func := "stopwatch/stopwatchlaw01.SpanDriftSpec", spec := "spanDriftSpec", unfollowed := true, recurses := true, apart := false }
def SpanDriftSpecSaid : Prop := spanDriftSpecRow.holds Try.pinned (OpenSpec.ofChange spanDriftSpecSpec)

/-- ITS FALSE NEIGHBOUR: 'it returns false'. Refute it at one input. -/
def spanDriftSpecWrong : ChangeSpec := { name := "spanDriftSpec", fn := fun _ => fun
  | [d1, d2] => { results := [.lit (.bool false)], args := [d1, d2] }
  | _ => none }
def SpanDriftSpecWrongFalsely : Prop := spanDriftSpecRow.holds Try.pinned (OpenSpec.ofChange spanDriftSpecWrong)

/-- 'stopwatchlaw01.SpanSums': WHATEVER THE INPUT: true; the input reads as it did. -/
def spanSumsSpec : ChangeSpec := { name := "spanSums", fn := fun _ => fun
  | [d1, d2, d3, d4, d5] => { results := [.lit (.bool true)], args := [d1, d2, d3, d4, d5] }
  | _ => none }
def spanSumsRow : OpenClaim := { program := "ytphbappgmoojeaa", sum := "f2424c858e1cb37a8d1f9acae1cf904656e4d6fe492d3dce51ec3d988db4e7e0", func := "stopwatch/stopwatchlaw01.SpanSums", spec := "spanSums", unfollowed := true, recurses := true, apart := false }
def SpanSumsSaid : Prop := spanSumsRow.holds Try.pinned (OpenSpec.ofChange spanSumsSpec)

/-- ITS FALSE NEIGHBOUR: 'it returns false'. Refute it at one input. -/
def spanSumsWrong : ChangeSpec := { name := "spanSums", fn := fun _ => fun
  | [d1, d2, d3, d4, d5] => { results := [.lit (.bool false)], args := [d1, d2, d3, d4, d5] }
  | _ => none }
def SpanSumsWrongFalsely : Prop := spanSumsRow.holds Try.pinned (OpenSpec.ofChange spanSumsWrong)

/-- 'stopwatchlaw01.SpanShifts': WHATEVER THE INPUT: true; the input reads as it did. -/
def spanShiftsSpec : ChangeSpec := { name := "spanShifts", fn := fun _ => fun
  | [d1, d2] => { results := [.lit (.bool true)], args := [d1, d2] }
  | _ => none }
def spanShiftsRow : OpenClaim := { program := "ytphbappgmoojeaa", sum := "f2424c858e1cb37a8d1f9acae1cf904656e4d6fe492d3dce51ec3d988db4e7e0", func := "stopwatch/stopwatchlaw01.SpanShifts", spec := "spanShifts", unfollowed := true, recurses := true, apart := false }
def SpanShiftsSaid : Prop := spanShiftsRow.holds Try.pinned (OpenSpec.ofChange spanShiftsSpec)

/-- ITS FALSE NEIGHBOUR: 'it returns false'. Refute it at one input. -/
def spanShiftsWrong : ChangeSpec := { name := "spanShifts", fn := fun _ => fun
  | [d1, d2] => { results := [.lit (.bool false)], args := [d1, d2] }
  | _ => none }
def SpanShiftsWrongFalsely : Prop := spanShiftsRow.holds Try.pinned (OpenSpec.ofChange spanShiftsWrong)

/-- 'stopwatchlaw01.SpanDrifts': WHATEVER THE INPUT: true; the input reads as it did. -/
def spanDriftsSpec : ChangeSpec := { name := "spanDrifts", fn := fun _ => fun
  | [d1, d2, d3] => { results := [.lit (.bool true)], args := [d1, d2, d3] }
  | _ => none }
def spanDriftsRow : OpenClaim := { program := "ytphbappgmoojeaa", sum := "f2424c858e1cb37a8d1f9acae1cf904656e4d6fe492d3dce51ec3d988db4e7e0", func := "stopwatch/stopwatchlaw01.SpanDrifts", spec := "spanDrifts", unfollowed := true, recurses := true, apart := false }
def SpanDriftsSaid : Prop := spanDriftsRow.holds Try.pinned (OpenSpec.ofChange spanDriftsSpec)

/-- ITS FALSE NEIGHBOUR: 'it returns false'. Refute it at one input. -/
def spanDriftsWrong : ChangeSpec := { name := "spanDrifts", fn := fun _ => fun
  | [d1, d2, d3] => { results := [.lit (.bool false)], args := [d1, d2, d3] }
  | _ => none }
def SpanDriftsWrongFalsely : Prop := spanDriftsRow.holds Try.pinned (OpenSpec.ofChange spanDriftsWrong)

/-- 'stopwatchlaw01.SpanSetSpec': WHATEVER THE INPUT: true; the input reads as it did. -/
def spanSetSpecSpec : ChangeSpec := { name := "spanSetSpec", fn := fun _ => fun
  | [d1, d2, d3, d4] => { results := [.lit (.bool true)], args := [d1, d2, d3, d4] }
  | _ => none }
def spanSetSpecRow : OpenClaim := { program := "ytphbappgmoojeaa", sum := "f2424c858e1cb37a8d1f9acae1cf904656e4d6fe492d3dce51ec3d988db4e7e0", func := "stopwatch/stopwatchlaw01.SpanSetSpec", spec := "spanSetSpec", unfollowed := true, recurses := true, apart := false }
def SpanSetSpecSaid : Prop := spanSetSpecRow.holds Try.pinned (OpenSpec.ofChange spanSetSpecSpec)

/-- ITS FALSE NEIGHBOUR: 'it returns false'. Refute it at one input. -/
def spanSetSpecWrong : ChangeSpec := { name := "spanSetSpec", fn := fun _ => fun
  | [d1, d2, d3, d4] => { results := [.lit (.bool false)], args := [d1, d2, d3, d4] }
  | _ => none }
def SpanSetSpecWrongFalsely : Prop := spanSetSpecRow.holds Try.pinned (OpenSpec.ofChange spanSetSpecWrong)

/-- 'stopwatchlaw01.SpanPoints': WHATEVER THE INPUT: true; the input reads as it did. -/
def spanPointsSpec : ChangeSpec := { name := "spanPoints", fn := fun _ => fun
  | [d1, d2, d3] => { results := [.lit (.bool true)], args := [d1, d2, d3] }
  | _ => none }
def spanPointsRow : OpenClaim := { program := "ytphbappgmoojeaa", sum := "f2424c858e1cb37a8d1f9acae1cf904656e4d6fe492d3dce51ec3d988db4e7e0", func := "stopwatch/stopwatchlaw01.SpanPoints", spec := "spanPoints", unfollowed := true, recurses := true, apart := false }
def SpanPointsSaid : Prop := spanPointsRow.holds Try.pinned (OpenSpec.ofChange spanPointsSpec)

/-- ITS FALSE NEIGHBOUR: 'it returns false'. Refute it at one input. -/
def spanPointsWrong : ChangeSpec := { name := "spanPoints", fn := fun _ => fun
  | [d1, d2, d3] => { results := [.lit (.bool false)], args := [d1, d2, d3] }
  | _ => none }
def SpanPointsWrongFalsely : Prop := spanPointsRow.holds Try.pinned (OpenSpec.ofChange spanPointsWrong)

/-- 'stopwatchlaw01.SpanDistributes': WHATEVER THE INPUT: true; the input reads as it did. -/
def spanDistributesSpec : ChangeSpec := { name := "spanDistributes", fn := fun _ => fun
  | [d1, d2, d3] => { results := [.lit (.bool true)], args := [d1, d2, d3] }
  | _ => none }
def spanDistributesRow : OpenClaim := { program := "ytphbappgmoojeaa", sum := "f2424c858e1cb37a8d1f9acae1cf904656e4d6fe492d3dce51ec3d988db4e7e0", func := "stopwatch/stopwatchlaw01.SpanDistributes", spec := "spanDistributes", unfollowed := true, recurses := true, apart := false }
def SpanDistributesSaid : Prop := spanDistributesRow.holds Try.pinned (OpenSpec.ofChange spanDistributesSpec)

/-- ITS FALSE NEIGHBOUR: 'it returns false'. Refute it at one input. -/
def spanDistributesWrong : ChangeSpec := { name := "spanDistributes", fn := fun _ => fun
  | [d1, d2, d3] => { results := [.lit (.bool false)], args := [d1, d2, d3] }
  | _ => none }
def SpanDistributesWrongFalsely : Prop := spanDistributesRow.holds Try.pinned (OpenSpec.ofChange spanDistributesWrong)

/- THE SECOND FORM. 'bulk': how many values and letters a reading holds, each counted each time it is reached (what is shared counts as often as it is met; a slice's spare places count too). A statement '..UptoSaid' is the law's where the arguments, and the package variables that the reading takes, are together of bulk at most 1048576: NARROWER than '..Said'. Prove '..Said' where nothing that the law and all that it calls make is longer than what came in: it says more and counts as full. Else prove '..UptoSaid'. A law counts once. -/
mutual
def uptoBulk {H : Type} : DataW H → Nat
  | .lit (.string bytes) => bytes.length + 1
  | .lit _ => 1
  | .nil => 1
  | .ptr d => uptoBulk d + 1
  | .slice elems spare => uptoBulkAll elems + uptoBulkAll spare + 1
  | .agg parts => uptoBulkAll parts + 1
  | .iface _ d => uptoBulk d + 1
  | .map entries => uptoBulkEntries entries + 1
  | .held _ => 1
def uptoBulkAll {H : Type} : List (DataW H) → Nat
  | [] => 0
  | d :: r => uptoBulk d + uptoBulkAll r
def uptoBulkEntries {H : Type} : List (Lit × DataW H) → Nat
  | [] => 0
  | x :: r => uptoBulkEntry x + uptoBulkEntries r
def uptoBulkEntry {H : Type} : Lit × DataW H → Nat
  | (.string bytes, d) => bytes.length + uptoBulk d + 1
  | (_, d) => uptoBulk d + 1
 end
def uptoSmall : (H : Type) → List (DataW H) → Bool := fun _ ds => decide (uptoBulkAll ds ≤ 1048576)
def OpenSpec.upto (s : _root_.Go.ChangeSpec) : _root_.Go.OpenSpec := { _root_.Go.OpenSpec.ofChange s with cond := some uptoSmall }

/-- 'stopwatchlaw01.SpanAddSpec', WHERE WHAT IT READS IS OF BULK AT MOST 1048576: true; the input reads as it did. -/
def spanAddSpecUptoRow : OpenClaim := { program := "ytphbappgmoojeaa", sum := "f2424c858e1cb37a8d1f9acae1cf904656e4d6fe492d3dce51ec3d988db4e7e0", func := "stopwatch/stopwatchlaw01.SpanAddSpec", spec := "spanAddSpec", unfollowed := true, recurses := true, apart := false, narrowed := true }
def SpanAddSpecUptoSaid : Prop := spanAddSpecUptoRow.holds Try.pinned (OpenSpec.upto spanAddSpecSpec)

/-- 'stopwatchlaw01.SpanDriftSpec', WHERE WHAT IT READS IS OF BULK AT MOST 1048576: true; the input reads as it did. -/
def spanDriftSpecUptoRow : OpenClaim := { program := "ytphbappgmoojeaa", sum := "f2424c858e1cb37a8d1f9acae1cf904656e4d6fe492d3dce51ec3d988db4e7e0", func := "stopwatch/stopwatchlaw01.SpanDriftSpec", spec := "spanDriftSpec", unfollowed := true, recurses := true, apart := false, narrowed := true }
def SpanDriftSpecUptoSaid : Prop := spanDriftSpecUptoRow.holds Try.pinned (OpenSpec.upto spanDriftSpecSpec)

/-- 'stopwatchlaw01.SpanSums', WHERE WHAT IT READS IS OF BULK AT MOST 1048576: true; the input reads as it did. -/
def spanSumsUptoRow : OpenClaim := { program := "ytphbappgmoojeaa", sum := "f2424c858e1cb37a8d1f9acae1cf904656e4d6fe492d3dce51ec3d988db4e7e0", func := "stopwatch/stopwatchlaw01.SpanSums", spec := "spanSums", unfollowed := true, recurses := true, apart := false, narrowed := true }
def SpanSumsUptoSaid : Prop := spanSumsUptoRow.holds Try.pinned (OpenSpec.upto spanSumsSpec)

/-- 'stopwatchlaw01.SpanShifts', WHERE WHAT IT READS IS OF BULK AT MOST 1048576: true; the input reads as it did. -/
def spanShiftsUptoRow : OpenClaim := { program := "ytphbappgmoojeaa", sum := "f2424c858e1cb37a8d1f9acae1cf904656e4d6fe492d3dce51ec3d988db4e7e0", func := "stopwatch/stopwatchlaw01.SpanShifts", spec := "spanShifts", unfollowed := true, recurses := true, apart := false, narrowed := true }
def SpanShiftsUptoSaid : Prop := spanShiftsUptoRow.holds Try.pinned (OpenSpec.upto spanShiftsSpec)

/-- 'stopwatchlaw01.SpanDrifts', WHERE WHAT IT READS IS OF BULK AT MOST 1048576: true; the input reads as it did. -/
def spanDriftsUptoRow : OpenClaim := { program := "ytphbappgmoojeaa", sum := "f2424c858e1cb37a8d1f9acae1cf904656e4d6fe492d3dce51ec3d988db4e7e0", func := "stopwatch/stopwatchlaw01.SpanDrifts", spec := "spanDrifts", unfollowed := true, recurses := true, apart := false, narrowed := true }
def SpanDriftsUptoSaid : Prop := spanDriftsUptoRow.holds Try.pinned (OpenSpec.upto spanDriftsSpec)

/-- 'stopwatchlaw01.SpanSetSpec', WHERE WHAT IT READS IS OF BULK AT MOST 1048576: true; the input reads as it did. -/
def spanSetSpecUptoRow : OpenClaim := { program := "ytphbappgmoojeaa", sum := "f2424c858e1cb37a8d1f9acae1cf904656e4d6fe492d3dce51ec3d988db4e7e0", func := "stopwatch/stopwatchlaw01.SpanSetSpec", spec := "spanSetSpec", unfollowed := true, recurses := true, apart := false, narrowed := true }
def SpanSetSpecUptoSaid : Prop := spanSetSpecUptoRow.holds Try.pinned (OpenSpec.upto spanSetSpecSpec)

/-- 'stopwatchlaw01.SpanPoints', WHERE WHAT IT READS IS OF BULK AT MOST 1048576: true; the input reads as it did. -/
def spanPointsUptoRow : OpenClaim := { program := "ytphbappgmoojeaa", sum := "f2424c858e1cb37a8d1f9acae1cf904656e4d6fe492d3dce51ec3d988db4e7e0", func := "stopwatch/stopwatchlaw01.SpanPoints", spec := "spanPoints", unfollowed := true, recurses := true, apart := false, narrowed := true }
def SpanPointsUptoSaid : Prop := spanPointsUptoRow.holds Try.pinned (OpenSpec.upto spanPointsSpec)

/-- 'stopwatchlaw01.SpanDistributes', WHERE WHAT IT READS IS OF BULK AT MOST 1048576: true; the input reads as it did. -/
def spanDistributesUptoRow : OpenClaim := { program := "ytphbappgmoojeaa", sum := "f2424c858e1cb37a8d1f9acae1cf904656e4d6fe492d3dce51ec3d988db4e7e0", func := "stopwatch/stopwatchlaw01.SpanDistributes", spec := "spanDistributes", unfollowed := true, recurses := true, apart := false, narrowed := true }
def SpanDistributesUptoSaid : Prop := spanDistributesUptoRow.holds Try.pinned (OpenSpec.upto spanDistributesSpec)

end Rows
end Go.Proofs.Ytphbappgmoojeaa
