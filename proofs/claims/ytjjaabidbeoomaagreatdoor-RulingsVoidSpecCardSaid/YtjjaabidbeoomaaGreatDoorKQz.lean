/-
  Rulings: without one case, in plain lists.
-/
import Derived.Test.YtjjaabidbeoomaaGreatDoorKQu
set_option linter.unusedSectionVars false
set_option linter.unusedSimpArgs false
set_option linter.unusedVariables false
namespace Go.Proofs.YtjjaabidbeoomaaGreatDoor
open Go.Xe Go.RowKit

theorem force_case {c : List F} {m : Int} {f : F} (h : forceO (fileOf c m) = some f) : f 47 = m := by
  unfold forceO at h
  split at h
  · cases h
  · split at h
    · rename_i g hg
      cases h
      exact (rul_eq (List.mem_filter.1 (List.mem_of_head? hg)).2).2.1
    · exact (rul_eq (List.mem_filter.1 (List.mem_of_head? h)).2).2.1
end Go.Proofs.YtjjaabidbeoomaaGreatDoor
