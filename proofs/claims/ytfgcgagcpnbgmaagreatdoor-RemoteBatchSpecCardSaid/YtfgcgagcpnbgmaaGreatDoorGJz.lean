/-
  Evidence: one more signed fact put on the shelf, walked.
-/
import Derived.Test.YtfgcgagcpnbgmaaGreatDoorGJx
set_option linter.all false
namespace Go.Proofs.YtfgcgagcpnbgmaaGreatDoor
open Go.Xe Go.RowKit
theorem p9_ {x:List Sg} (h:∀ q∈x,dN_ q) {i:Nat} (hi:i≤x.length):(sgC x).take (i*61)=sgC (x.take i)∧(sgC x).drop (i*61)=sgC (x.drop i):=by
 have e:sgC x=sgC (x.take i)++sgC (x.drop i):=by rw[← eu_,List.take_append_drop]
 have hl:(sgC (x.take i)).length=i*61:=by rw[sgC_len fun q hq=>h q (List.mem_of_mem_take hq),List.length_take,Nat.min_eq_left hi]
 rw[e,← hl]
 exact⟨List.take_left,List.drop_left⟩
end Go.Proofs.YtfgcgagcpnbgmaaGreatDoor
