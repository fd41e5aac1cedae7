/-
  The reference's Encode of facts.
-/
import Derived.Test.YtjjaabidbeoomaaDoorKI
set_option linter.unusedSectionVars false
set_option linter.unusedSimpArgs false
set_option linter.unusedVariables false
namespace Go.Proofs.YtjjaabidbeoomaaDoor
open Go.Xe Go.RowKit

def sI (l l1 : List Int) : St :=
  mkS 23 [(0, .d (slI l)), (2, .ptr 2 0), (3, .ptr 3 0), (4, .d (.v (.int .i64 l1.length)))]
    [(2, .cells 113 [.d (.v (.int .i64 0)), .d (.v (.int .i64 0)), .d (.v (.string ⟨#[]⟩)), .d (.v (.slice none 0 0))]), (3, .cells 113 [.d (.v (.int .i64 3)), .d (.v (.int .i64 0)), .d (.v (.string ⟨#[]⟩)), .row 500]), (500, .row 113 4 l1.length ((V.cellsL (l1.map intV)).map .d))]
theorem intV_d (x : Int) : (intV x).cells = [.v (.int .i64 1), .v (.int .i64 x), .v (.string ⟨#[]⟩), .sl 4 [] 0 false] := by simp [intV, V.cells, V.cellsL]
theorem refN_in {f : Nat → Int} (hf : fOk f) : (∀ x ∈ refN f, isI x) ∧ (refN f).length ≤ 12 := by
  have h := hf.1
  have key : ∀ L : List Nat, L.length ≤ 12 → refN f = L.map f → (∀ x ∈ refN f, isI x) ∧ (refN f).length ≤ 12 := fun L h1 h2 => by
    rw [h2]
    refine ⟨fun x hx => ?_, by simpa using h1⟩
    obtain ⟨i, _, rfl⟩ := List.mem_map.1 hx
    exact h i
  have hk : (f 3 < 1 ∨ 13 < f 3 ∨ f 3 = 12) ∨ f 3 = 1 ∨ f 3 = 2 ∨ f 3 = 3 ∨ f 3 = 4 ∨ f 3 = 5 ∨ f 3 = 6 ∨ f 3 = 7 ∨ f 3 = 8 ∨ f 3 = 9 ∨ f 3 = 10 ∨ f 3 = 11 ∨ f 3 = 13 := by omega
  rcases hk with hk | hk | hk | hk | hk | hk | hk | hk | hk | hk | hk | hk | hk
  · refine key [3, 0, 1, 2] (by decide) ?_
    unfold refN
    rw [if_neg (by omega)]
    rw [if_neg (by omega)]
    rw [if_neg (by omega)]
    rw [if_neg (by omega)]
    rw [if_neg (by omega)]
    rw [if_neg (by omega)]
    rw [if_neg (by omega)]
    rw [if_neg (by omega)]
    rw [if_neg (by omega)]
    rw [if_neg (by omega)]
    rw [if_neg (by omega)]
    rw [if_neg (by omega)]
    rfl
  · exact key [3, 0, 1, 2, 4, 5, 6, 7, 8, 9, 10, 11] (by decide) (by simp [refN, hk])
  · exact key [3, 0, 1, 2, 12, 13, 14, 15] (by decide) (by simp [refN, hk])
  · exact key [3, 0, 1, 2, 16, 17, 18, 19, 20] (by decide) (by simp [refN, hk])
  · exact key [3, 0, 1, 2, 21, 22, 23, 24, 25, 26, 27, 28] (by decide) (by simp [refN, hk])
  · exact key [3, 0, 1, 2, 29, 30, 31, 32] (by decide) (by simp [refN, hk])
  · exact key [3, 0, 1, 2, 33, 34, 35, 36] (by decide) (by simp [refN, hk])
  · exact key [3, 0, 1, 2, 37, 38] (by decide) (by simp [refN, hk])
  · exact key [3, 0, 1, 2, 39, 40, 41, 42] (by decide) (by simp [refN, hk])
  · exact key [3, 0, 1, 2, 43, 44, 45, 46] (by decide) (by simp [refN, hk])
  · exact key [3, 0, 1, 2, 47, 48, 49, 50, 51, 52] (by decide) (by simp [refN, hk])
  · have e : refN f = [f 3, f 0, f 1, f 2, f 53, if f 54 = 1 then 1 else 0] := by simp [refN, hk]
    rw [e]
    refine ⟨fun x hx => ?_, by simp⟩
    simp only [List.mem_cons, List.not_mem_nil, or_false] at hx
    rcases hx with rfl | rfl | rfl | rfl | rfl | rfl <;> first | exact h _ | (split <;> simp [isI])
  · exact key [3, 0, 1, 2, 55, 56] (by decide) (by simp [refN, hk])
def refR (f : Nat → Int) : List UInt8 × Int := if chkF f = true then (V.enc (intsV (refN f)), 0) else ([], 120)
end Go.Proofs.YtjjaabidbeoomaaDoor
