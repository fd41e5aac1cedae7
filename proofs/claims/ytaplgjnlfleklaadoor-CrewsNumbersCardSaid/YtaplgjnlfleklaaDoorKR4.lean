/-
  The row and the card of CrewsNumbers: for every input the law returns true, and its arguments read afterwards as before; the variables start as the text lays them.
-/
import Derived.Test.YtaplgjnlfleklaaDoorKRl
import Derived.Test.YtaplgjnlfleklaaDoorKMj
set_option linter.unusedSectionVars false
set_option linter.unusedSimpArgs false
set_option linter.unusedVariables false
namespace Go.Proofs.YtaplgjnlfleklaaDoor
open Go.Xe Go.RowKit

set_option maxRecDepth 100000 in
theorem r4_lifted (os : Os) (started : os.Started) (H : Type) (enc : TypeId × Value → H) :
    ReturnsInHanded {} Tryd.checked os 4 .any (fun w args => (Rows.crewsNumbersSpec.pre enc Tryd.prog Tryd.f4 [] false w args ∧ laidMetH Tryd.prog laidL w) ∧ sizedMet enc Tryd.prog Tryd.f4 (OpenSpec.ofChange Rows.crewsNumbersSpec) false w args) (Rows.crewsNumbersSpec.post enc Tryd.prog Tryd.f4 false true false false) := by
  refine returnsInHanded_of_change_and (C := Tryd.checked) (X := fun w _ => laidMetH Tryd.prog laidL w) (fun _ _ _ hh h => h.of_heap hh) Tryd.own started (by kernel_rfl) Tryd.func4
    (ChangeSpec.witness_shaped (enc := enc) (C := Tryd.checked) (os := os) (X := fun w _ => laidMetH Tryd.prog laidL w) false (World.doorLaid Tryd.prog (400) os) #[.slice none 0 0, zeroS, .int .i64 0] 8 rfl (World.shaped_of_RefB (by kernel_rfl) (by kernel_rfl)) (by kernel_rfl) (by kernel_rfl) (by kernel_rfl) (door_met os _)) ?_
  intro W base args ds gs before hval hW _ hwt hL _
  have hgl := gl_of_laid Tryd.tab Tryd.pok laidL_ok laidL_plain laid_at hL
  exact law_core (fn := Tryd.f4) Tryd.tab Tryd.gok Tryd.laidOut (tb := 4) rfl (fun ds h => by match ds, h with | [d0, d1, d2], _ => rfl) rfl Tryd.underlying4 (by
    intro t ht
    have : t = 66 ∨ t = 62 ∨ t = 3 := by simpa [Tryd.f4] using ht
    rcases this with rfl | rfl | rfl <;> exact ⟨rfl, by kernel_rfl, of_decide_eq_true (by kernel_rfl)⟩) (fun xs ha => by
    match xs, ha with
    | [a0, a1, a2], ⟨⟨n0, y0, o0, e0⟩, ⟨⟨n1, y1, o1, e1⟩, ⟨⟨n2, y2, o2, e2⟩, _⟩⟩⟩ =>
      obtain ⟨x0, v0, h0⟩ := arg_crews o0
      obtain ⟨x1, v1, h1⟩ := arg_signed o1
      obtain ⟨x2, v2, h2⟩ := arg_int o2
      rw [e0, v0, e1, v1, e2, v2]
      exact law_numbers x0 h0.1 h0.2 x1 h1.1 h1.2 x2 h2) hval hgl hW hwt

theorem crewsNumbers_j0 : (Rows.crewsNumbersRow.inPlace == Tryd.prog.inPlace 4) = true := by kernel_rfl
theorem crewsNumbers_j1 : (Rows.crewsNumbersRow.unfollowed == Tryd.prog.unfollowed 4) = true := by kernel_rfl
theorem crewsNumbers_j2 : (Rows.crewsNumbersRow.recurses == Tryd.prog.recurses 4) = true := by kernel_rfl
theorem crewsNumbers_j3 : (Rows.crewsNumbersRow.named == Tryd.prog.varsNamed 4) = true := by kernel_rfl
theorem crewsNumbers_joined : joinedFacts Tryd.prog 4 Tryd.f4 Rows.crewsNumbersSpec Rows.crewsNumbersRow = true := by
  unfold joinedFacts
  rw [crewsNumbers_j0, crewsNumbers_j1, crewsNumbers_j2, crewsNumbers_j3]
  kernel_rfl
theorem crewsNumbers_holds : Rows.CrewsNumbersSaid :=
  OpenClaim.holds_of_wide 4 Tryd.f4 rfl rfl rfl rfl rfl rfl rfl ⟨rfl, rfl, rfl, rfl, rfl⟩ rfl rfl rfl rfl rfl (by kernel_rfl) Tryd.func4 crewsNumbers_joined
    (of_decide_eq_true (by kernel_rfl)) (by unfold Func.isWrapper; first | (rw [if_pos (by decide +kernel)]; kernel_rfl) | (rw [if_neg (by decide +kernel)]; exact ⟨rfl, rfl⟩))
    (fun os started H enc _ => r4_lifted os started H enc)
theorem crewsNumbers_card : Rows.CrewsNumbersCardSaid :=
  Claim7.holds_tied_plain_at .later [] [.widerDeep, .data, .data, .data, .data, .data, .data, .data, .data, .data, .data, .data, .data] true (true, "5675e46dd889b25bfa4fa682b530501dabb96ae9221d361156b31411fa3f4748") false crewsNumbers_holds (fun _ h => by cases h) (by kernel_rfl) (fun _ h => by cases h) crewsNumbers_row_tie rfl ⟨rfl, rfl⟩ (by kernel_rfl) rfl
    (fun f fn hf hfn => by
      obtain rfl : f = 4 := Option.some.inj ((show Tryd.prog.funcNamed "stopwatch/stopwatchlaw13.CrewsNumbers" = some 4 by kernel_rfl).symm.trans hf) |>.symm
      obtain rfl : fn = Tryd.f4 := (Option.some.inj (Tryd.func4.symm.trans hfn)).symm
      exact ⟨by kernel_rfl, fun j t ht => by
        have hm : t ∈ [66, 62, 3] := by have := Array.mem_of_getElem? ht; simpa [Tryd.f4] using this
        have hall : ([66, 62, 3].all fun u => !Tryd.prog.wantsStandIn u) = true := by kernel_rfl
        exact (show Tryd.prog.wantsStandIn t = false by simpa using List.all_eq_true.1 hall t hm)⟩)
    (by kernel_rfl)
end Go.Proofs.YtaplgjnlfleklaaDoor
