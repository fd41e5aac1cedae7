/-
  Evidence: where a signed fact stands among those of a place (binary search); a copy of them.
-/
import Derived.Test.YtfgcgagcpnbgmaaGreatDoorQJn
import Derived.Test.YtfgcgagcpnbgmaaGreatDoorQEX
import Derived.Test.YtfgcgagcpnbgmaaGreatDoorQJd
import Derived.Test.YtfgcgagcpnbgmaaGreatDoorQKh
import Derived.Test.YtfgcgagcpnbgmaaGreatDoorQKc
import Derived.Test.YtfgcgagcpnbgmaaGreatDoorQJa
import Derived.Test.YtfgcgagcpnbgmaaGreatDoorQF
import Derived.Test.YtfgcgagcpnbgmaaGreatDoorQEngFz
set_option linter.unusedVariables false
set_option linter.unusedSimpArgs false
set_option linter.unusedSectionVars false
namespace Go.Proofs.YtfgcgagcpnbgmaaGreatDoor
open Go.Xe Go.RowKit
def sgc (p : Sg) : List D := fcs p.1 0 57 ++ p.2
def sgV (p : Sg) : D := .agg (sgc p)
theorem sgc_len {p : Sg} (h : sgOk p) : (sgc p).length = 61 := by rw [sgc, List.length_append, fcs_len57, h.2.1]
theorem sgc_57 (p : Sg) : List.take 57 ((sgc p).map AV.d) = (fcs p.1 0 57).map .d := by
 rw [sgc, ← List.map_take, List.take_append, fcs_len57, List.take_of_length_le (by rw [fcs_len57]; omega)]
 simp
theorem sgc_57D (p : Sg) : List.take 57 (sgc p) = fcs p.1 0 57 := by
 rw [sgc, List.take_append, fcs_len57, List.take_of_length_le (by rw [fcs_len57]; omega)]
 simp
theorem sgc_one {p : Sg} (hp : sgOk p) : ∀ c ∈ (sgc p).map AV.d, oneA c = true := fun c h => by
 obtain ⟨d, hd, rfl⟩ := List.mem_map.1 h
 rcases List.mem_append.1 hd with hd | hd
 ·exact fcs_side hd
 ·exact hp.2.2 d hd
@[simp] theorem Leq_sgV (p : Sg) : Leq (.agg ((sgc p).map .d)) (.d (sgV p)) ↔ True := ⟨fun _ => trivial, fun _ => Leq.aggD _⟩
@[simp] theorem Leq_sgV' (p : Sg) : Leq (.agg ((sgc p).map .d)) (.d (.agg (sgc p))) ↔ True := ⟨fun _ => trivial, fun _ => Leq.aggD _⟩
theorem sgc_t {p : Sg} (h : sgOk p) : List.take 61 (sgc p) = sgc p := List.take_of_length_le (by rw [sgc_len h]; omega)
theorem sgc_tm {p : Sg} (h : sgOk p) : List.take 61 ((sgc p).map AV.d) = (sgc p).map .d := List.take_of_length_le (by rw [List.length_map, sgc_len h]; omega)
theorem sgc_at {x : List Sg} {i : Nat} (hi : i < x.length) (h : ∀ q ∈ x, sgOk q) : ((sgC x).drop (i * 61)).take 61 = sgc x[i] := by
 have e : x = x.take i ++ x[i] :: x.drop (i + 1) := by
  rw [← List.drop_eq_getElem_cons hi, List.take_append_drop]
 have := sgC_at (l1 := x.take i) (p := x[i]) (l2 := x.drop (i + 1)) (by rw [← e]; exact h)
 rw [← e, List.length_take, Nat.min_eq_left (by omega)] at this
 exact this
theorem sgc_oneD {p : Sg} (hp : sgOk p) : ∀ d ∈ sgc p, oneD d = true := fun d hd => by
 rcases List.mem_append.1 hd with hd | hd
 ·exact fcs_side hd
 ·exact hp.2.2 d hd
def posS (s : Sg) (x : List Sg) : Nat := (x.takeWhile fun t => decide (cmpF t.1 s.1 < 0)).length
def isS (s : Sg) (x : List Sg) : Bool := match x[posS s x]? with
 | some t => decide (cmpF t.1 s.1 = 0)
 | none => false
end Go.Proofs.YtfgcgagcpnbgmaaGreatDoor
