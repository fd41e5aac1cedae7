/-
  Rows of the laws on spans.
-/
import Derived.Test.YtphbappgmoojeaaKRd
import Derived.Test.YtphbappgmoojeaaKIf
set_option linter.unusedSectionVars false
set_option linter.unusedSimpArgs false
set_option linter.unusedVariables false
namespace Go.Proofs.Ytphbappgmoojeaa
open Go.Xe Go.RowKit

set_option maxRecDepth 100000 in
theorem r5_lifted (os : Os) (started : os.Started) (H : Type) (enc : TypeId × Value → H) :
    ReturnsInHanded {} Try.checked os 5 .any (Rows.spanSumsSpec.pre6 enc Try.prog Try.f5 Rows.spanSumsRow.domain false) (Rows.spanSumsSpec.post enc Try.prog Try.f5 false true false false) := by
  refine returnsInHanded_of_change_sized (C := Try.checked) Try.own started (by kernel_rfl) Try.func5
    (ChangeSpec.witness6 (enc := enc) (C := Try.checked) false ⟨#[], #[.slice none 0 0, .slice none 0 0, .int .i64 0, .int .i64 0, .int .u64 0], []⟩ 8 (by kernel_rfl) (by kernel_rfl) (by kernel_rfl) (by kernel_rfl)) ?_
  intro W base args ds gs before hval hW _ hwt _
  exact law_core (fn := Try.f5) Try.tab Try.gok Try.laidOut (tb := 4) rfl (fun ds h => by match ds, h with | [d0, d1, d2, d3, d4], _ => rfl) rfl Try.underlying4 (by
    intro t ht
    have : t = 22 ∨ t = 22 ∨ t = 3 ∨ t = 3 ∨ t = 33 := by simpa [Try.f5] using ht
    have : t = 3 ∨ t = 22 ∨ t = 33 := by rcases this with h | h | h | h | h <;> simp [h]
    rcases this with rfl | rfl | rfl <;> exact ⟨rfl, by kernel_rfl, of_decide_eq_true (by kernel_rfl)⟩) (fun xs ha => by
    match xs, ha with
    | [a0, a1, a2, a3, a4], ⟨⟨n0, y0, o0, e0⟩, ⟨⟨n1, y1, o1, e1⟩, ⟨⟨n2, y2, o2, e2⟩, ⟨⟨n3, y3, o3, e3⟩, ⟨⟨n4, y4, o4, e4⟩, _⟩⟩⟩⟩⟩ =>
      obtain ⟨x0, v0, h0⟩ := arg_spans o0
      obtain ⟨x1, v1, h1⟩ := arg_spans o1
      obtain ⟨x2, v2, h2⟩ := arg_int o2
      obtain ⟨x3, v3, h3⟩ := arg_int o3
      obtain ⟨x4, v4, h4⟩ := arg_uint o4
      rw [e0, v0, e1, v1, e2, v2, e3, v3, e4, v4]
      exact law_sums x0 x1 x2 x3 x4 h4) hval (fun _ _ h => by cases h) hW hwt

theorem spanSums_holds : Rows.SpanSumsSaid :=
  OpenClaim.holds_of_wide 5 Try.f5 rfl rfl rfl rfl rfl rfl rfl ⟨rfl, rfl, rfl, rfl, rfl⟩ rfl rfl rfl rfl rfl (by kernel_rfl) Try.func5 (by kernel_rfl)
    (of_decide_eq_true (by kernel_rfl)) (by unfold Func.isWrapper; first | (rw [if_pos (by decide +kernel)]; kernel_rfl) | (rw [if_neg (by decide +kernel)]; exact ⟨rfl, rfl⟩))
    (fun os started H enc _ => r5_lifted os started H enc)

end Go.Proofs.Ytphbappgmoojeaa
