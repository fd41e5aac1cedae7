/-
  The row and the card of factsOther: for every input the law returns true, and its arguments read afterwards as before; the variables start as the program's text lays them.
-/
import Derived.Test.YtjfkeicmdaanbaaDoorKRf
import Derived.Test.YtjfkeicmdaanbaaDoorKGd
set_option linter.unusedSectionVars false
set_option linter.unusedSimpArgs false
set_option linter.unusedVariables false
namespace Go.Proofs.YtjfkeicmdaanbaaDoor
open Go.Xe Go.RowKit

set_option maxRecDepth 100000 in
theorem r9_lifted (os : Os) (started : os.Started) (H : Type) (enc : TypeId × Value → H) :
    ReturnsInHanded {} Tryd.checked os 9 .any (fun w args => (Rows.factsOtherSpec.pre enc Tryd.prog Tryd.f9 [] false w args ∧ laidMetH Tryd.prog laidL w) ∧ sizedMet enc Tryd.prog Tryd.f9 (OpenSpec.ofChange Rows.factsOtherSpec) false w args) (Rows.factsOtherSpec.post enc Tryd.prog Tryd.f9 false true false false) := by
  refine returnsInHanded_of_change_and (C := Tryd.checked) (X := fun w _ => laidMetH Tryd.prog laidL w) (fun _ _ _ hh h => h.of_heap hh) Tryd.own started (by kernel_rfl) Tryd.func9
    (ChangeSpec.witness_shaped (enc := enc) (C := Tryd.checked) (os := os) (X := fun w _ => laidMetH Tryd.prog laidL w) false (World.doorLaid Tryd.prog (400) os) #[zeroF, .int .i64 0] 8 rfl (World.shaped_of_RefB (by kernel_rfl) (by kernel_rfl)) (by kernel_rfl) (by kernel_rfl) (by kernel_rfl) (door_met os _)) ?_
  intro W base args ds gs before hval hW _ hwt hL _
  have hgl := gl_of_laid Tryd.tab Tryd.pok laidL_ok laidL_plain laid_at hL
  exact law_core (fn := Tryd.f9) Tryd.tab Tryd.gok Tryd.laidOut (tb := 4) rfl (fun ds h => by match ds, h with | [d0, d1], _ => rfl) rfl Tryd.underlying4 (by
    intro t ht
    have : t = 47 ∨ t = 3 := by simpa [Tryd.f9] using ht
    rcases this with rfl | rfl <;> exact ⟨rfl, by kernel_rfl, of_decide_eq_true (by kernel_rfl)⟩) (fun xs ha => by
    match xs, ha with
    | [a0, a1], ⟨⟨n0, y0, o0, e0⟩, ⟨⟨n1, y1, o1, e1⟩, _⟩⟩ =>
      obtain ⟨x0, v0, h0⟩ := arg_fact o0
      obtain ⟨x1, v1, h1⟩ := arg_int o1
      rw [e0, v0, e1, v1]
      exact law_other x0 x1 h0) hval hgl hW hwt

theorem factsOther_holds : Rows.FactsOtherSaid :=
  OpenClaim.holds_of_wide 9 Tryd.f9 rfl rfl rfl rfl rfl rfl rfl ⟨rfl, rfl, rfl, rfl, rfl⟩ rfl rfl rfl rfl rfl (by kernel_rfl) Tryd.func9 (by kernel_rfl)
    (of_decide_eq_true (by kernel_rfl)) (by unfold Func.isWrapper; first | (rw [if_pos (by decide +kernel)]; kernel_rfl) | (rw [if_neg (by decide +kernel)]; exact ⟨rfl, rfl⟩))
    (fun os started H enc _ => r9_lifted os started H enc)
theorem factsOther_card : Rows.FactsOtherCardSaid :=
  Claim7.holds_tied_plain_at .later [] [.data, .data, .data, .data, .data, .data, .data, .data, .data, .data, .data] true (true, "708b5f6f3634f4f0890c02473ea9d4ce3b1f6bb87ec048d1d8962305ea5a8317") true factsOther_holds (fun _ h => by cases h) (by kernel_rfl) (fun _ h => by cases h) factsOther_row_tie rfl ⟨rfl, rfl⟩ (by kernel_rfl) rfl
    (fun f fn hf hfn => by
      obtain rfl : f = 9 := Option.some.inj ((show Tryd.prog.funcNamed "stopwatch/stopwatchlaw12.FactsOther" = some 9 by kernel_rfl).symm.trans hf) |>.symm
      obtain rfl : fn = Tryd.f9 := (Option.some.inj (Tryd.func9.symm.trans hfn)).symm
      exact ⟨by kernel_rfl, fun j t ht => by
        have hm : t ∈ [47, 3] := by have := Array.mem_of_getElem? ht; simpa [Tryd.f9] using this
        have hall : ([47, 3].all fun u => !Tryd.prog.wantsStandIn u) = true := by kernel_rfl
        exact (show Tryd.prog.wantsStandIn t = false by simpa using List.all_eq_true.1 hall t hm)⟩)
    (by kernel_rfl)
end Go.Proofs.YtjfkeicmdaanbaaDoor
