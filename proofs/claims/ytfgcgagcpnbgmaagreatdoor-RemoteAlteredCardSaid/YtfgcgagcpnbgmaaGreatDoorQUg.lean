/-
  Evidence: the first element of another reference; those of a reference alone.
-/
import Derived.Test.YtfgcgagcpnbgmaaGreatDoorQUe
import Derived.Test.YtfgcgagcpnbgmaaGreatDoorQKe
set_option linter.unusedVariables false
set_option linter.unusedSimpArgs false
set_option linter.unusedSectionVars false
namespace Go.Proofs.YtfgcgagcpnbgmaaGreatDoor
open Go.Xe Go.RowKit
theorem sgc_atA {x : List Sg} {i : Nat} (hi : i < x.length) (h : ∀ q ∈ x, sgOk q) : List.take 61 (List.drop (i * 61) ((sgC x).map AV.d)) = (sgc x[i]).map .d := by
 rw [← List.map_drop, ← List.map_take, sgc_at hi h]
theorem sgC_set {x : List Sg} (h : ∀ q ∈ x, sgOk q) {i : Nat} (hi : i < x.length) {p : Sg} (hp : sgOk p) : setL ((sgC x).map AV.d) (i * 61) ((sgc p).map .d) = (sgC (x.set i p)).map .d := by
 have lc := sgC_len h
 have l2 := sgc_len hp
 rw [setL_eq _ _ _ (by rw [List.length_map, List.length_map]; omega), ← List.map_take, ← List.map_drop, (sgC_take h (by omega)).1, List.length_map, l2, show i * 61 + 61 = (i + 1) * 61 by omega, (sgC_take h (by omega)).2, ← List.map_append, ← List.map_append]
 congr 1
 rw [List.set_eq_take_append_cons_drop, if_pos hi, sgC_append]
 rw [show sgC (p :: x.drop (i + 1)) = sgc p ++ sgC (x.drop (i + 1)) from rfl, List.append_assoc]
end Go.Proofs.YtfgcgagcpnbgmaaGreatDoor
