/-
  The engine: the library's insertion sort of a row, by the kit's contract.
-/
import Derived.Test.YtaplgjnlfleklaaDoorK8
import Derived.Shelf.SlSortCmp.InsertionK
import Derived.Shelf.SlSortCmp.NoneTotal
set_option linter.unusedSectionVars false
set_option linter.unusedVariables false
set_option linter.unusedSimpArgs false
namespace Go.Xe
open Go.RowKit Go.Sort Go.Shelf
variable [Glob]

section
variable {α : Type} [Inhabited α]
end
end Go.Xe
