/-
  Joined texts.
-/
import Derived.Test.YtjjaabidbeoomaaDoorKFf
set_option linter.unusedVariables false
set_option linter.unusedSimpArgs false
set_option linter.unusedSectionVars false
/-
  The reference's checks: numbers in their ranges.
-/
set_option linter.unusedSimpArgs false
set_option linter.unusedVariables false
namespace Go.Proofs.YtjjaabidbeoomaaDoor
open Go.Xe Go.RowKit

abbrev inB (x lo hi : Int) : Bool := decide (lo ≤ x) && decide (x ≤ hi)
end Go.Proofs.YtjjaabidbeoomaaDoor

/-
  The reference's checks: rulings, contents; a fact without what its kind does not have.
-/
set_option linter.unusedSimpArgs false
set_option linter.unusedVariables false
namespace Go.Proofs.YtjjaabidbeoomaaDoor
open Go.Xe Go.RowKit

def rulB (f : Nat → Int) : Bool :=
  if f 49 = 1 ∨ f 49 = 2 then decide (f 50 = 0) && decide (f 51 = 0) && decide (f 52 = 0)
  else if f 49 = 3 then inB (f 50) 1 9999 && inB (f 51) 0 255 && inB (f 52) 1 1099511627776
  else if f 49 = 4 then inB (f 50) 1 9999 && inB (f 51) 0 255 && inB (f 52) 1 64
  else if f 49 = 5 then inB (f 50) 1 9999 && inB (f 51) 0 255 && decide (f 52 = 0)
  else false
def rulF (f : Nat → Int) : Bool := (inB (f 47) 1 1048576 && inB (f 48) 1 2) && rulB f
/-- The contents of the kind are valid. -/
def conF (f : Nat → Int) : Bool :=
  if f 3 = 1 then inB (f 4) 1 9999 && inB (f 5) 0 7 && inB (f 6) 0 31 && inB (f 7) (-1099511627776) 1099511627776 && inB (f 8) 0 120 && inB (f 9) 0 1048576 && inB (f 10) 0 9999 && inB (f 11) 0 1048576
  else if f 3 = 2 then inB (f 12) 0 39 && inB (f 13) 0 255 && inB (f 14) 0 1048576 && inB (f 15) (-1099511627776) 1099511627776
  else if f 3 = 3 then inB (f 16) 0 39 && inB (f 17) 0 255 && inB (f 18) (-1099511627776) 1099511627776 && inB (f 19) (-1099511627776) 1099511627776 && inB (f 20) 0 1099511627776
  else if f 3 = 4 then inB (f 21) 0 39 && inB (f 24) 0 39 && inB (f 22) 0 255 && inB (f 25) 0 255 && inB (f 23) (-1099511627776) 1099511627776 && inB (f 26) (-1099511627776) 1099511627776 && inB (f 27) (-1099511627776) 1099511627776 && inB (f 28) (-1099511627776) 1099511627776 && decide (f 27 ≤ f 28)
  else if f 3 = 5 then inB (f 29) 1 9999 && inB (f 30) 0 255 && inB (f 31) (-1099511627776) 1099511627776 && inB (f 32) (-1099511627776) 1099511627776 && decide (f 31 ≤ f 32)
  else if f 3 = 6 then inB (f 33) 0 39 && inB (f 34) 0 255 && inB (f 35) (-1099511627776) 1099511627776 && inB (f 36) (-1099511627776) 1099511627776 && decide (f 35 ≤ f 36)
  else if f 3 = 7 then inB (f 37) 1 9999 && inB (f 38) 1 9999 && decide (f 37 < f 38)
  else if f 3 = 8 then inB (f 39) 1 1048576 && inB (f 40) 1 9999 && inB (f 41) 0 31 && inB (f 42) 0 255
  else if f 3 = 9 then inB (f 43) 1 1048576 && inB (f 44) 0 9999 && inB (f 45) 0 1125899906842624 && inB (f 46) 0 1
  else if f 3 = 10 then rulF f
  else if f 3 = 11 then inB (f 53) 1 1048576
  else if f 3 = 12 then true
  else if f 3 = 13 then inB (f 55) 0 31 && inB (f 56) 1 1048576
  else false
end Go.Proofs.YtjjaabidbeoomaaDoor

/-
  The reference's Check.
-/
set_option linter.unusedSimpArgs false
set_option linter.unusedVariables false
namespace Go.Proofs.YtjjaabidbeoomaaDoor
open Go.Xe Go.RowKit

def partF (k : Int) : Nat × Nat :=
  if k = 1 then (4, 8) else if k = 2 then (12, 4) else if k = 3 then (16, 5) else if k = 4 then (21, 8) else if k = 5 then (29, 4) else if k = 6 then (33, 4) else if k = 7 then (37, 2)
  else if k = 8 then (39, 4) else if k = 9 then (43, 4) else if k = 10 then (47, 6) else if k = 11 then (53, 2) else if k = 13 then (55, 2) else (0, 0)
def baseF (f : Nat → Int) : Nat → Int := fup (fup (fup (fup f0 0 (f 0)) 1 (f 1)) 2 (f 2)) 3 (f 3)
/-- A fact without its content but that of its kind. -/
def onlyF (f : Nat → Int) : Nat → Int := fcp (baseF f) f (partF (f 3)).1 (partF (f 3)).2
theorem onlyF_ok {f : Nat → Int} (hf : fOk f) : fOk (onlyF f) := by
  have hb : fOk (baseF f) := by
    refine ⟨fup_in (fup_in (fup_in (fup_in (fun _ => isI0) (hf.1 0)) (hf.1 1)) (hf.1 2)) (hf.1 3), .inl rfl, fun i hi => ?_⟩
    have h0 : i ≠ 0 := by omega
    have h1 : i ≠ 1 := by omega
    have h2 : i ≠ 2 := by omega
    have h3 : i ≠ 3 := by omega
    simp [baseF, fup, f0, h0, h1, h2, h3]
  refine ⟨fun i => ?_, ?_, fun i hi => ?_⟩
  · unfold onlyF fcp; split; exact hf.1 i; exact hb.1 i
  · unfold onlyF fcp; split; exact hf.2.1; exact hb.2.1
  · unfold onlyF fcp; split; exact hf.2.2 i hi; exact hb.2.2 i hi
@[simp] theorem fcp_none (g f : Nat → Int) : fcp g f 0 0 = g := by funext i; simp only [fcp]; rw [if_neg (by omega)]

/-- What the reference's Check asks. -/
def chkF (f : Nat → Int) : Bool := inB (f 0) 0 31 && inB (f 1) 1 1048576 && inB (f 2) 0 1099511627776 && conF f && eqF f (onlyF f)
end Go.Proofs.YtjjaabidbeoomaaDoor
