/-
  The other rows of the codec.
-/
import Derived.Test.YtnbanfpelgcmoaaRa
import Derived.Test.YtnbanfpelgcmoaaLd
import Derived.Test.YtnbanfpelgcmoaaLf
set_option linter.unusedSimpArgs false
set_option linter.unusedVariables false
namespace Go.Proofs.Ytnbanfpelgcmoaa
open Go.Xe Go.RowKit

theorem arg_list {n : Nat} {ds : List D} (h : OkD Try.τ n 22 ds) : ∃ l, argOf Try.τ 22 ds = slV l ∧ V.rngL l = true := by
  cases n with
  | zero => exact h.elim
  | succ n =>
    simp only [OkD, Try.τ22] at h
    obtain ⟨m, rfl, h1, _⟩ := h
    have key : ∀ m : List (List D), (∀ x ∈ m, OkD Try.τ n 24 x) → ∃ vs : List V, m.flatten = V.cellsL vs ∧ m.length = vs.length ∧ V.rngL vs = true := by
      intro m
      induction m with
      | nil => intro _; exact ⟨[], rfl, rfl, rfl⟩
      | cons x m ih2 =>
        intro h
        obtain ⟨v, hv, hr⟩ := ok_val n n (Nat.le_refl _) x (h x (by simp))
        obtain ⟨vs, h2, h3, h4⟩ := ih2 fun y hy => h y (by simp [hy])
        exact ⟨v :: vs, by rw [List.flatten_cons, hv, h2]; rfl, by simp [h3], by rw [V.rngL, hr, h4]; rfl⟩
    obtain ⟨vs, h2, h3, h4⟩ := key m h1
    exact ⟨vs, by rw [h2, h3]; rfl, h4⟩

set_option maxRecDepth 100000 in
theorem r4_lifted (os : Os) (started : os.Started) (H : Type) (enc : TypeId × Value → H) :
    ReturnsInHanded {} Try.checked os 4 .any (Rows.codecDecodeSpecSpec.pre6 enc Try.prog Try.f4 Rows.codecDecodeSpecRow.domain false) (Rows.codecDecodeSpecSpec.post enc Try.prog Try.f4 false true false false) := by
  refine returnsInHanded_of_change_sized (C := Try.checked) Try.own started (by kernel_rfl) Try.func4
    (ChangeSpec.witness6 (enc := enc) (C := Try.checked) false ⟨#[], #[.slice none 0 0], []⟩ 8 (by kernel_rfl) (by kernel_rfl) (by kernel_rfl) (by kernel_rfl)) ?_
  intro W base args ds gs before hval hW _ hwt _
  exact law_core (fn := Try.f4) Try.tab Try.gok Try.laidOut (tb := 4) rfl (fun ds h => by match ds, h with | [d0], _ => rfl) rfl Try.underlying4 (by
    intro t ht
    have : t = 27 := by simpa [Try.f4] using ht
    subst this
    exact ⟨rfl, by kernel_rfl, of_decide_eq_true (by kernel_rfl)⟩) (fun xs ha => by
    match xs, ha with
    | [a0], ⟨⟨n0, y0, o0, e0⟩, _⟩ =>
      obtain ⟨x0, v0⟩ := arg_bytes o0
      rw [e0, v0]
      exact f4_ok x0) hval hW hwt

theorem codecDecodeSpec_holds : Rows.CodecDecodeSpecSaid :=
  OpenClaim.holds_of_wide 4 Try.f4 rfl rfl rfl rfl rfl rfl rfl ⟨rfl, rfl, rfl, rfl, rfl⟩ rfl rfl rfl rfl rfl (by kernel_rfl) Try.func4 (by kernel_rfl)
    (of_decide_eq_true (by kernel_rfl)) (by unfold Func.isWrapper; first | (rw [if_pos (by decide +kernel)]; kernel_rfl) | (rw [if_neg (by decide +kernel)]; exact ⟨rfl, rfl⟩))
    (fun os started H enc _ => r4_lifted os started H enc)

set_option maxRecDepth 100000 in
theorem r5_lifted (os : Os) (started : os.Started) (H : Type) (enc : TypeId × Value → H) :
    ReturnsInHanded {} Try.checked os 5 .any (Rows.codecSameSpecSpec.pre6 enc Try.prog Try.f5 Rows.codecSameSpecRow.domain false) (Rows.codecSameSpecSpec.post enc Try.prog Try.f5 false true false false) := by
  refine returnsInHanded_of_change_sized (C := Try.checked) Try.own started (by kernel_rfl) Try.func5
    (ChangeSpec.witness6 (enc := enc) (C := Try.checked) false ⟨#[], #[zeroV, zeroV], []⟩ 8 (by kernel_rfl) (by kernel_rfl) (by kernel_rfl) (by kernel_rfl)) ?_
  intro W base args ds gs before hval hW _ hwt _
  exact law_core (fn := Try.f5) Try.tab Try.gok Try.laidOut (tb := 4) rfl (fun ds h => by match ds, h with | [d0, d1], _ => rfl) rfl Try.underlying4 (by
    intro t ht
    have : t = 24 ∨ t = 24 := by simpa [Try.f5] using ht
    have : t = 24 := by rcases this with h | h <;> simp [h]
    subst this
    exact ⟨rfl, by kernel_rfl, of_decide_eq_true (by kernel_rfl)⟩) (fun xs ha => by
    match xs, ha with
    | [a0, a1], ⟨⟨n0, y0, o0, e0⟩, ⟨⟨n1, y1, o1, e1⟩, _⟩⟩ =>
      obtain ⟨x0, v0, h0⟩ := arg_val o0
      obtain ⟨x1, v1, h1⟩ := arg_val o1
      rw [e0, v0, e1, v1]
      exact f5_ok x0 x1 h0 h1) hval hW hwt

theorem codecSameSpec_holds : Rows.CodecSameSpecSaid :=
  OpenClaim.holds_of_wide 5 Try.f5 rfl rfl rfl rfl rfl rfl rfl ⟨rfl, rfl, rfl, rfl, rfl⟩ rfl rfl rfl rfl rfl (by kernel_rfl) Try.func5 (by kernel_rfl)
    (of_decide_eq_true (by kernel_rfl)) (by unfold Func.isWrapper; first | (rw [if_pos (by decide +kernel)]; kernel_rfl) | (rw [if_neg (by decide +kernel)]; exact ⟨rfl, rfl⟩))
    (fun os started H enc _ => r5_lifted os started H enc)

set_option maxRecDepth 100000 in
theorem r6_lifted (os : Os) (started : os.Started) (H : Type) (enc : TypeId × Value → H) :
    ReturnsInHanded {} Try.checked os 6 .any (Rows.codecRoundTripSpec.pre6 enc Try.prog Try.f6 Rows.codecRoundTripRow.domain false) (Rows.codecRoundTripSpec.post enc Try.prog Try.f6 false true false false) := by
  refine returnsInHanded_of_change_sized (C := Try.checked) Try.own started (by kernel_rfl) Try.func6
    (ChangeSpec.witness6 (enc := enc) (C := Try.checked) false ⟨#[], #[zeroV, .slice none 0 0], []⟩ 8 (by kernel_rfl) (by kernel_rfl) (by kernel_rfl) (by kernel_rfl)) ?_
  intro W base args ds gs before hval hW _ hwt _
  exact law_core (fn := Try.f6) Try.tab Try.gok Try.laidOut (tb := 4) rfl (fun ds h => by match ds, h with | [d0, d1], _ => rfl) rfl Try.underlying4 (by
    intro t ht
    have : t = 24 ∨ t = 27 := by simpa [Try.f6] using ht
    rcases this with rfl | rfl <;> exact ⟨rfl, by kernel_rfl, of_decide_eq_true (by kernel_rfl)⟩) (fun xs ha => by
    match xs, ha with
    | [a0, a1], ⟨⟨n0, y0, o0, e0⟩, ⟨⟨n1, y1, o1, e1⟩, _⟩⟩ =>
      obtain ⟨x0, v0, h0⟩ := arg_val o0
      obtain ⟨x1, v1⟩ := arg_bytes o1
      rw [e0, v0, e1, v1]
      exact f6_ok x0 h0 x1) hval hW hwt

theorem codecRoundTrip_holds : Rows.CodecRoundTripSaid :=
  OpenClaim.holds_of_wide 6 Try.f6 rfl rfl rfl rfl rfl rfl rfl ⟨rfl, rfl, rfl, rfl, rfl⟩ rfl rfl rfl rfl rfl (by kernel_rfl) Try.func6 (by kernel_rfl)
    (of_decide_eq_true (by kernel_rfl)) (by unfold Func.isWrapper; first | (rw [if_pos (by decide +kernel)]; kernel_rfl) | (rw [if_neg (by decide +kernel)]; exact ⟨rfl, rfl⟩))
    (fun os started H enc _ => r6_lifted os started H enc)

set_option maxRecDepth 100000 in
theorem r7_lifted (os : Os) (started : os.Started) (H : Type) (enc : TypeId × Value → H) :
    ReturnsInHanded {} Try.checked os 7 .any (Rows.codecDifferentSpec.pre6 enc Try.prog Try.f7 Rows.codecDifferentRow.domain false) (Rows.codecDifferentSpec.post enc Try.prog Try.f7 false true false false) := by
  refine returnsInHanded_of_change_sized (C := Try.checked) Try.own started (by kernel_rfl) Try.func7
    (ChangeSpec.witness6 (enc := enc) (C := Try.checked) false ⟨#[], #[zeroV, zeroV], []⟩ 8 (by kernel_rfl) (by kernel_rfl) (by kernel_rfl) (by kernel_rfl)) ?_
  intro W base args ds gs before hval hW _ hwt _
  exact law_core (fn := Try.f7) Try.tab Try.gok Try.laidOut (tb := 4) rfl (fun ds h => by match ds, h with | [d0, d1], _ => rfl) rfl Try.underlying4 (by
    intro t ht
    have : t = 24 ∨ t = 24 := by simpa [Try.f7] using ht
    have : t = 24 := by rcases this with h | h <;> simp [h]
    subst this
    exact ⟨rfl, by kernel_rfl, of_decide_eq_true (by kernel_rfl)⟩) (fun xs ha => by
    match xs, ha with
    | [a0, a1], ⟨⟨n0, y0, o0, e0⟩, ⟨⟨n1, y1, o1, e1⟩, _⟩⟩ =>
      obtain ⟨x0, v0, h0⟩ := arg_val o0
      obtain ⟨x1, v1, h1⟩ := arg_val o1
      rw [e0, v0, e1, v1]
      exact f7_ok x0 x1 h0 h1) hval hW hwt

theorem codecDifferent_holds : Rows.CodecDifferentSaid :=
  OpenClaim.holds_of_wide 7 Try.f7 rfl rfl rfl rfl rfl rfl rfl ⟨rfl, rfl, rfl, rfl, rfl⟩ rfl rfl rfl rfl rfl (by kernel_rfl) Try.func7 (by kernel_rfl)
    (of_decide_eq_true (by kernel_rfl)) (by unfold Func.isWrapper; first | (rw [if_pos (by decide +kernel)]; kernel_rfl) | (rw [if_neg (by decide +kernel)]; exact ⟨rfl, rfl⟩))
    (fun os started H enc _ => r7_lifted os started H enc)

set_option maxRecDepth 100000 in
theorem r8_lifted (os : Os) (started : os.Started) (H : Type) (enc : TypeId × Value → H) :
    ReturnsInHanded {} Try.checked os 8 .any (Rows.codecListsSpec.pre6 enc Try.prog Try.f8 Rows.codecListsRow.domain false) (Rows.codecListsSpec.post enc Try.prog Try.f8 false true false false) := by
  refine returnsInHanded_of_change_sized (C := Try.checked) Try.own started (by kernel_rfl) Try.func8
    (ChangeSpec.witness6 (enc := enc) (C := Try.checked) false ⟨#[], #[.slice none 0 0], []⟩ 8 (by kernel_rfl) (by kernel_rfl) (by kernel_rfl) (by kernel_rfl)) ?_
  intro W base args ds gs before hval hW _ hwt _
  exact law_core (fn := Try.f8) Try.tab Try.gok Try.laidOut (tb := 4) rfl (fun ds h => by match ds, h with | [d0], _ => rfl) rfl Try.underlying4 (by
    intro t ht
    have : t = 22 := by simpa [Try.f8] using ht
    subst this
    exact ⟨rfl, by kernel_rfl, of_decide_eq_true (by kernel_rfl)⟩) (fun xs ha => by
    match xs, ha with
    | [a0], ⟨⟨n0, y0, o0, e0⟩, _⟩ =>
      obtain ⟨x0, v0, h0⟩ := arg_list o0
      rw [e0, v0]
      exact f8_ok x0 h0) hval hW hwt

theorem codecLists_holds : Rows.CodecListsSaid :=
  OpenClaim.holds_of_wide 8 Try.f8 rfl rfl rfl rfl rfl rfl rfl ⟨rfl, rfl, rfl, rfl, rfl⟩ rfl rfl rfl rfl rfl (by kernel_rfl) Try.func8 (by kernel_rfl)
    (of_decide_eq_true (by kernel_rfl)) (by unfold Func.isWrapper; first | (rw [if_pos (by decide +kernel)]; kernel_rfl) | (rw [if_neg (by decide +kernel)]; exact ⟨rfl, rfl⟩))
    (fun os started H enc _ => r8_lifted os started H enc)

set_option maxRecDepth 100000 in
theorem r9_lifted (os : Os) (started : os.Started) (H : Type) (enc : TypeId × Value → H) :
    ReturnsInHanded {} Try.checked os 9 .any (Rows.codecNumbersSpec.pre6 enc Try.prog Try.f9 Rows.codecNumbersRow.domain false) (Rows.codecNumbersSpec.post enc Try.prog Try.f9 false true false false) := by
  refine returnsInHanded_of_change_sized (C := Try.checked) Try.own started (by kernel_rfl) Try.func9
    (ChangeSpec.witness6 (enc := enc) (C := Try.checked) false ⟨#[], #[.int .i64 0, .int .i64 0], []⟩ 8 (by kernel_rfl) (by kernel_rfl) (by kernel_rfl) (by kernel_rfl)) ?_
  intro W base args ds gs before hval hW _ hwt _
  exact law_core (fn := Try.f9) Try.tab Try.gok Try.laidOut (tb := 4) rfl (fun ds h => by match ds, h with | [d0, d1], _ => rfl) rfl Try.underlying4 (by
    intro t ht
    have : t = 3 ∨ t = 3 := by simpa [Try.f9] using ht
    have : t = 3 := by rcases this with h | h <;> simp [h]
    subst this
    exact ⟨rfl, by kernel_rfl, of_decide_eq_true (by kernel_rfl)⟩) (fun xs ha => by
    match xs, ha with
    | [a0, a1], ⟨⟨n0, y0, o0, e0⟩, ⟨⟨n1, y1, o1, e1⟩, _⟩⟩ =>
      obtain ⟨x0, v0, h0⟩ := arg_int o0
      obtain ⟨x1, v1, h1⟩ := arg_int o1
      rw [e0, v0, e1, v1]
      exact f9_ok x0 x1 h0 h1) hval hW hwt

theorem codecNumbers_holds : Rows.CodecNumbersSaid :=
  OpenClaim.holds_of_wide 9 Try.f9 rfl rfl rfl rfl rfl rfl rfl ⟨rfl, rfl, rfl, rfl, rfl⟩ rfl rfl rfl rfl rfl (by kernel_rfl) Try.func9 (by kernel_rfl)
    (of_decide_eq_true (by kernel_rfl)) (by unfold Func.isWrapper; first | (rw [if_pos (by decide +kernel)]; kernel_rfl) | (rw [if_neg (by decide +kernel)]; exact ⟨rfl, rfl⟩))
    (fun os started H enc _ => r9_lifted os started H enc)

end Go.Proofs.Ytnbanfpelgcmoaa
