/-
  The row and the card of CrewsTurned: for every input the law returns true, and its arguments read afterwards as before; the variables start as the text lays them.
-/
import Derived.Test.YtaplgjnlfleklaaDoorKRl
import Derived.Test.YtaplgjnlfleklaaDoorKMh
set_option linter.unusedSectionVars false
set_option linter.unusedSimpArgs false
set_option linter.unusedVariables false
namespace Go.Proofs.YtaplgjnlfleklaaDoor
open Go.Xe Go.RowKit

set_option maxRecDepth 100000 in
theorem r5_lifted (os : Os) (started : os.Started) (H : Type) (enc : TypeId × Value → H) :
    ReturnsInHanded {} Tryd.checked os 5 .any (fun w args => (Rows.crewsTurnedSpec.pre enc Tryd.prog Tryd.f5 [] false w args ∧ laidMetH Tryd.prog laidL w) ∧ sizedMet enc Tryd.prog Tryd.f5 (OpenSpec.ofChange Rows.crewsTurnedSpec) false w args) (Rows.crewsTurnedSpec.post enc Tryd.prog Tryd.f5 false true false false) := by
  refine returnsInHanded_of_change_and (C := Tryd.checked) (X := fun w _ => laidMetH Tryd.prog laidL w) (fun _ _ _ hh h => h.of_heap hh) Tryd.own started (by kernel_rfl) Tryd.func5
    (ChangeSpec.witness_shaped (enc := enc) (C := Tryd.checked) (os := os) (X := fun w _ => laidMetH Tryd.prog laidL w) false (World.doorLaid Tryd.prog (400) os) #[.slice none 0 0, .int .u64 0] 8 rfl (World.shaped_of_RefB (by kernel_rfl) (by kernel_rfl)) (by kernel_rfl) (by kernel_rfl) (by kernel_rfl) (door_met os _)) ?_
  intro W base args ds gs before hval hW _ hwt hL _
  have hgl := gl_of_laid Tryd.tab Tryd.pok laidL_ok laidL_plain laid_at hL
  exact law_core (fn := Tryd.f5) Tryd.tab Tryd.gok Tryd.laidOut (tb := 4) rfl (fun ds h => by match ds, h with | [d0, d1], _ => rfl) rfl Tryd.underlying4 (by
    intro t ht
    have : t = 73 ∨ t = 75 := by simpa [Tryd.f5] using ht
    rcases this with rfl | rfl <;> exact ⟨rfl, by kernel_rfl, of_decide_eq_true (by kernel_rfl)⟩) (fun xs ha => by
    match xs, ha with
    | [a0, a1], ⟨⟨n0, y0, o0, e0⟩, ⟨⟨n1, y1, o1, e1⟩, _⟩⟩ =>
      obtain ⟨x0, v0, h0⟩ := arg_signeds o0
      obtain ⟨x1, v1, h1⟩ := arg_uint o1
      rw [e0, v0, e1, v1]
      exact law_turned x0 x1 h0.1 (fun p hp => sgU_F (h0.2.1 p hp)) h0.2.2 h1.1 h1.2) hval hgl hW hwt

theorem crewsTurned_j0 : (Rows.crewsTurnedRow.inPlace == Tryd.prog.inPlace 5) = true := by kernel_rfl
theorem crewsTurned_j1 : (Rows.crewsTurnedRow.unfollowed == Tryd.prog.unfollowed 5) = true := by kernel_rfl
theorem crewsTurned_j2 : (Rows.crewsTurnedRow.recurses == Tryd.prog.recurses 5) = true := by kernel_rfl
theorem crewsTurned_j3 : (Rows.crewsTurnedRow.named == Tryd.prog.varsNamed 5) = true := by kernel_rfl
theorem crewsTurned_joined : joinedFacts Tryd.prog 5 Tryd.f5 Rows.crewsTurnedSpec Rows.crewsTurnedRow = true := by
  unfold joinedFacts
  rw [crewsTurned_j0, crewsTurned_j1, crewsTurned_j2, crewsTurned_j3]
  kernel_rfl
theorem crewsTurned_holds : Rows.CrewsTurnedSaid :=
  OpenClaim.holds_of_wide 5 Tryd.f5 rfl rfl rfl rfl rfl rfl rfl ⟨rfl, rfl, rfl, rfl, rfl⟩ rfl rfl rfl rfl rfl (by kernel_rfl) Tryd.func5 crewsTurned_joined
    (of_decide_eq_true (by kernel_rfl)) (by unfold Func.isWrapper; first | (rw [if_pos (by decide +kernel)]; kernel_rfl) | (rw [if_neg (by decide +kernel)]; exact ⟨rfl, rfl⟩))
    (fun os started H enc _ => r5_lifted os started H enc)
theorem crewsTurned_card : Rows.CrewsTurnedCardSaid :=
  Claim7.holds_tied_plain_at .later [] [.widerDeep, .data, .data, .data, .data, .data, .data, .data, .data, .data, .data, .data, .data] true (true, "5675e46dd889b25bfa4fa682b530501dabb96ae9221d361156b31411fa3f4748") false crewsTurned_holds (fun _ h => by cases h) (by kernel_rfl) (fun _ h => by cases h) crewsTurned_row_tie rfl ⟨rfl, rfl⟩ (by kernel_rfl) rfl
    (fun f fn hf hfn => by
      obtain rfl : f = 5 := Option.some.inj ((show Tryd.prog.funcNamed "stopwatch/stopwatchlaw13.CrewsTurned" = some 5 by kernel_rfl).symm.trans hf) |>.symm
      obtain rfl : fn = Tryd.f5 := (Option.some.inj (Tryd.func5.symm.trans hfn)).symm
      exact ⟨by kernel_rfl, fun j t ht => by
        have hm : t ∈ [73, 75] := by have := Array.mem_of_getElem? ht; simpa [Tryd.f5] using this
        have hall : ([73, 75].all fun u => !Tryd.prog.wantsStandIn u) = true := by kernel_rfl
        exact (show Tryd.prog.wantsStandIn t = false by simpa using List.all_eq_true.1 hall t hm)⟩)
    (by kernel_rfl)
end Go.Proofs.YtaplgjnlfleklaaDoor
