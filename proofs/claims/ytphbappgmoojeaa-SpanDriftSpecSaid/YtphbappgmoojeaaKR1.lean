/-
  Rows of the laws on spans.
-/
import Derived.Test.YtphbappgmoojeaaKRd
import Derived.Test.YtphbappgmoojeaaKIb
set_option linter.unusedSectionVars false
set_option linter.unusedSimpArgs false
set_option linter.unusedVariables false
namespace Go.Proofs.Ytphbappgmoojeaa
open Go.Xe Go.RowKit

set_option maxRecDepth 100000 in
theorem r3_lifted (os : Os) (started : os.Started) (H : Type) (enc : TypeId × Value → H) :
    ReturnsInHanded {} Try.checked os 3 .any (Rows.spanAddSpecSpec.pre6 enc Try.prog Try.f3 Rows.spanAddSpecRow.domain false) (Rows.spanAddSpecSpec.post enc Try.prog Try.f3 false true false false) := by
  refine returnsInHanded_of_change_sized (C := Try.checked) Try.own started (by kernel_rfl) Try.func3
    (ChangeSpec.witness6 (enc := enc) (C := Try.checked) false ⟨#[], #[.slice none 0 0, .slice none 0 0, .int .i64 0], []⟩ 8 (by kernel_rfl) (by kernel_rfl) (by kernel_rfl) (by kernel_rfl)) ?_
  intro W base args ds gs before hval hW _ hwt _
  exact law_core (fn := Try.f3) Try.tab Try.gok Try.laidOut (tb := 4) rfl (fun ds h => by match ds, h with | [d0, d1, d2], _ => rfl) rfl Try.underlying4 (by
    intro t ht
    have : t = 22 ∨ t = 22 ∨ t = 3 := by simpa [Try.f3] using ht
    have : t = 3 ∨ t = 22 := by rcases this with h | h | h <;> simp [h]
    rcases this with rfl | rfl <;> exact ⟨rfl, by kernel_rfl, of_decide_eq_true (by kernel_rfl)⟩) (fun xs ha => by
    match xs, ha with
    | [a0, a1, a2], ⟨⟨n0, y0, o0, e0⟩, ⟨⟨n1, y1, o1, e1⟩, ⟨⟨n2, y2, o2, e2⟩, _⟩⟩⟩ =>
      obtain ⟨x0, v0, h0⟩ := arg_spans o0
      obtain ⟨x1, v1, h1⟩ := arg_spans o1
      obtain ⟨x2, v2, h2⟩ := arg_int o2
      rw [e0, v0, e1, v1, e2, v2]
      exact law_add x0 x1 x2) hval (fun _ _ h => by cases h) hW hwt

theorem spanAddSpec_holds : Rows.SpanAddSpecSaid :=
  OpenClaim.holds_of_wide 3 Try.f3 rfl rfl rfl rfl rfl rfl rfl ⟨rfl, rfl, rfl, rfl, rfl⟩ rfl rfl rfl rfl rfl (by kernel_rfl) Try.func3 (by kernel_rfl)
    (of_decide_eq_true (by kernel_rfl)) (by unfold Func.isWrapper; first | (rw [if_pos (by decide +kernel)]; kernel_rfl) | (rw [if_neg (by decide +kernel)]; exact ⟨rfl, rfl⟩))
    (fun os started H enc _ => r3_lifted os started H enc)

set_option maxRecDepth 100000 in
theorem r4_lifted (os : Os) (started : os.Started) (H : Type) (enc : TypeId × Value → H) :
    ReturnsInHanded {} Try.checked os 4 .any (Rows.spanDriftSpecSpec.pre6 enc Try.prog Try.f4 Rows.spanDriftSpecRow.domain false) (Rows.spanDriftSpecSpec.post enc Try.prog Try.f4 false true false false) := by
  refine returnsInHanded_of_change_sized (C := Try.checked) Try.own started (by kernel_rfl) Try.func4
    (ChangeSpec.witness6 (enc := enc) (C := Try.checked) false ⟨#[], #[.int .i64 0, .int .i64 0], []⟩ 8 (by kernel_rfl) (by kernel_rfl) (by kernel_rfl) (by kernel_rfl)) ?_
  intro W base args ds gs before hval hW _ hwt _
  exact law_core (fn := Try.f4) Try.tab Try.gok Try.laidOut (tb := 4) rfl (fun ds h => by match ds, h with | [d0, d1], _ => rfl) rfl Try.underlying4 (by
    intro t ht
    have : t = 3 ∨ t = 3 := by simpa [Try.f4] using ht
    have : t = 3 := by rcases this with h | h <;> simp [h]
    subst this
    exact ⟨rfl, by kernel_rfl, of_decide_eq_true (by kernel_rfl)⟩) (fun xs ha => by
    match xs, ha with
    | [a0, a1], ⟨⟨n0, y0, o0, e0⟩, ⟨⟨n1, y1, o1, e1⟩, _⟩⟩ =>
      obtain ⟨x0, v0, h0⟩ := arg_int o0
      obtain ⟨x1, v1, h1⟩ := arg_int o1
      rw [e0, v0, e1, v1]
      exact law_drift x0 x1) hval (fun _ _ h => by cases h) hW hwt

theorem spanDriftSpec_holds : Rows.SpanDriftSpecSaid :=
  OpenClaim.holds_of_wide 4 Try.f4 rfl rfl rfl rfl rfl rfl rfl ⟨rfl, rfl, rfl, rfl, rfl⟩ rfl rfl rfl rfl rfl (by kernel_rfl) Try.func4 (by kernel_rfl)
    (of_decide_eq_true (by kernel_rfl)) (by unfold Func.isWrapper; first | (rw [if_pos (by decide +kernel)]; kernel_rfl) | (rw [if_neg (by decide +kernel)]; exact ⟨rfl, rfl⟩))
    (fun os started H enc _ => r4_lifted os started H enc)

set_option maxRecDepth 100000 in
theorem r8_lifted (os : Os) (started : os.Started) (H : Type) (enc : TypeId × Value → H) :
    ReturnsInHanded {} Try.checked os 8 .any (Rows.spanSetSpecSpec.pre6 enc Try.prog Try.f8 Rows.spanSetSpecRow.domain false) (Rows.spanSetSpecSpec.post enc Try.prog Try.f8 false true false false) := by
  refine returnsInHanded_of_change_sized (C := Try.checked) Try.own started (by kernel_rfl) Try.func8
    (ChangeSpec.witness6 (enc := enc) (C := Try.checked) false ⟨#[], #[.agg #[.int .i64 0, .int .i64 0], .slice none 0 0, .slice none 0 0, .int .i64 0], []⟩ 8 (by kernel_rfl) (by kernel_rfl) (by kernel_rfl) (by kernel_rfl)) ?_
  intro W base args ds gs before hval hW _ hwt _
  exact law_core (fn := Try.f8) Try.tab Try.gok Try.laidOut (tb := 4) rfl (fun ds h => by match ds, h with | [d0, d1, d2, d3], _ => rfl) rfl Try.underlying4 (by
    intro t ht
    have : t = 37 ∨ t = 22 ∨ t = 22 ∨ t = 3 := by simpa [Try.f8] using ht
    have : t = 3 ∨ t = 22 ∨ t = 37 := by rcases this with h | h | h | h <;> simp [h]
    rcases this with rfl | rfl | rfl <;> exact ⟨rfl, by kernel_rfl, of_decide_eq_true (by kernel_rfl)⟩) (fun xs ha => by
    match xs, ha with
    | [a0, a1, a2, a3], ⟨⟨n0, y0, o0, e0⟩, ⟨⟨n1, y1, o1, e1⟩, ⟨⟨n2, y2, o2, e2⟩, ⟨⟨n3, y3, o3, e3⟩, _⟩⟩⟩⟩ =>
      obtain ⟨x0, v0, h0⟩ := arg_span o0
      obtain ⟨x1, v1, h1⟩ := arg_spans o1
      obtain ⟨x2, v2, h2⟩ := arg_spans o2
      obtain ⟨x3, v3, h3⟩ := arg_int o3
      rw [e0, v0, e1, v1, e2, v2, e3, v3]
      exact law_set x0 x1 x2 x3) hval (fun _ _ h => by cases h) hW hwt

theorem spanSetSpec_holds : Rows.SpanSetSpecSaid :=
  OpenClaim.holds_of_wide 8 Try.f8 rfl rfl rfl rfl rfl rfl rfl ⟨rfl, rfl, rfl, rfl, rfl⟩ rfl rfl rfl rfl rfl (by kernel_rfl) Try.func8 (by kernel_rfl)
    (of_decide_eq_true (by kernel_rfl)) (by unfold Func.isWrapper; first | (rw [if_pos (by decide +kernel)]; kernel_rfl) | (rw [if_neg (by decide +kernel)]; exact ⟨rfl, rfl⟩))
    (fun os started H enc _ => r8_lifted os started H enc)

end Go.Proofs.Ytphbappgmoojeaa
