/-
  Rulings: a ruling's cells.
-/
import Derived.Test.YtjjaabidbeoomaaDoorKWb
set_option linter.unusedSectionVars false
set_option linter.unusedSimpArgs false
set_option linter.unusedVariables false
namespace Go.Proofs.YtjjaabidbeoomaaDoor
open Go.Xe Go.RowKit

theorem f0_ok : fOk f0 := ⟨fun _ => isI0, .inl rfl, fun _ _ => rfl⟩
abbrev ruB (f : F) : Box := .cells 43 ((fcs f 47 6).map .d)
theorem fcs476 (f : F) : fcs f 47 6 = [.v (.int .i64 (f 47)), .v (.int .i64 (f 48)), .v (.int .i64 (f 49)), .v (.int .i64 (f 50)), .v (.int .i64 (f 51)), .v (.int .i64 (f 52))] := rfl
theorem ruL_lits (f g : F) : decide (ruL f = ruL g) = true ↔ litsD (fcs f 47 6) = litsD (fcs g 47 6) := by
  simp [ruL, fcs476, litsD, litD]
abbrev slA (A : List F) : D := .sl 6 (prt 47 6 A) A.length false
theorem forceD_some (f : F) : forceD (some f) = .tup [ruD f, .v (.bool true)] := rfl
theorem forceD_none : forceD none = .tup [ru0, .v (.bool false)] := rfl
end Go.Proofs.YtjjaabidbeoomaaDoor
