/-
  Ledgers: references as a map's keys.
-/
import Derived.Test.YtfgcgagcpnbgmaaGreatDoorWFC
import Derived.Test.YtfgcgagcpnbgmaaGreatDoorWEngFz
import Derived.DeepKeys5
set_option linter.unusedVariables false
set_option linter.unusedSimpArgs false
set_option linter.unusedSectionVars false
namespace Go.Proofs.YtfgcgagcpnbgmaaGreatDoor
open Go.Xe Go.RowKit
def eO_ (r:Int×Int):Value:=.agg #[.int .i64 r.1,.int .i64 r.2]
theorem uw_ {r s:Int×Int} (h:eO_ r=eO_ s):r=s:=by
 simp[eO_] at h
 exact Prod.ext h.1 h.2
theorem nty:Tryz.prog.types.size=362:=by kernel_rfl
theorem laidOut:laidOutB Tryz.prog=true:=by kernel_rfl
def b4_ (l:List (Int×Int)) (r:Int×Int):List (Int×Int):=if r∈l then l else l++[r]
theorem tD_ {l:List (Int×Int)} {r s:Int×Int}:s∈b4_ l r↔s∈l∨s=r:=by
 unfold b4_
 split
 ·rename_i h
  exact⟨.inl,fun h'=>h'.elim id fun e=>e▸h⟩
 ·simp
end Go.Proofs.YtfgcgagcpnbgmaaGreatDoor
