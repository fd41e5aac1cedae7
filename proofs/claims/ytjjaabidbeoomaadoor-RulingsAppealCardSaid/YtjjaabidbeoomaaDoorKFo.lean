/-
  The next number of a list.
-/
import Derived.Test.YtjjaabidbeoomaaDoorKFm
set_option linter.unusedSectionVars false
set_option linter.unusedSimpArgs false
set_option linter.unusedVariables false
namespace Go.Proofs.YtjjaabidbeoomaaDoor
open Go.Xe Go.RowKit

@[simp] def vB (k n : Int) (s : ByteArray) (l : List V) : Box := .cells 113 [.d (.v (.int .i64 k)), .d (.v (.int .i64 n)), .d (.v (.string s)), .d (slV l)]
def V.num : V → Int
  | .mk _ n _ _ => n
theorem V.cells_take (a : List V) (v : V) (b : List V) : ((V.cellsL (a ++ v :: b)).drop (a.length * 4)).take 4 = v.cells := V.cells_at a v b
end Go.Proofs.YtjjaabidbeoomaaDoor
