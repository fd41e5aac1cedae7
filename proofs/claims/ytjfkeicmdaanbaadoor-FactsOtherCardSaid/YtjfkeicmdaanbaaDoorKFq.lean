/-
  The next number, by its place.
-/
import Derived.Test.YtjfkeicmdaanbaaDoorKFo
set_option linter.unusedSectionVars false
set_option linter.unusedSimpArgs false
set_option linter.unusedVariables false
namespace Go.Proofs.YtjfkeicmdaanbaaDoor
open Go.Xe Go.RowKit

/-- The number at a place; 0 behind the end. -/
def nthL (l : List V) (i : Nat) : Int := match l[i]? with
  | some v => v.num
  | none => 0
theorem next_ok (k n : Int) (s : ByteArray) (l : List V) (j : Nat) (hl : l.length ≤ 1000000000000) :
    Fun Tryd.prog 36 [.ptr 1000 0, .ptr 1001 0] [(1000, sB (min j l.length : Nat)), (1001, vB k n s l)] (.d (.v (.int .i64 (nthL l j)))) [(1000, sB (min (j + 1) l.length : Nat)), (1001, vB k n s l)] fun _ => False := by
  by_cases h : j < l.length
  · have e : l = l.take j ++ l[j] :: l.drop (j + 1) := by rw [List.getElem_cons_drop, List.take_append_drop]
    have hj : (l.take j).length = j := by rw [List.length_take]; omega
    have hc := next_c k n s (l.take j) l[j] (l.drop (j + 1)) (by omega)
    rw [← e, hj] at hc
    have hn : nthL l j = l[j].num := by rw [nthL, List.getElem?_eq_getElem h]
    rw [show min j l.length = j by omega, show min (j + 1) l.length = j + 1 by omega, hn]
    exact hc
  · have hn : nthL l j = 0 := by rw [nthL, List.getElem?_eq_none (by omega)]
    rw [show min j l.length = l.length by omega, show min (j + 1) l.length = l.length by omega, hn]
    exact next_e k n s l
end Go.Proofs.YtjfkeicmdaanbaaDoor
