/-
  The row and the card of CrewsVerifySpec: for every input the law returns true, and its arguments read afterwards as before; the variables start as the text lays them.
-/
import Derived.Test.YtnljenjcaeophaaGreatDoorQRl
import Derived.Test.YtnljenjcaeophaaGreatDoorQTP
set_option linter.unusedVariables false
set_option linter.unusedSimpArgs false
set_option linter.unusedSectionVars false
namespace Go.Proofs.YtnljenjcaeophaaGreatDoor
open Go.Xe Go.RowKit
set_option maxRecDepth 100000 in
theorem r7_lifted (os : Os) (started : os.Started) (H : Type) (enc : TypeId × Value → H) :
  ReturnsInHanded {} Tryz.checked os 7 .any (fun w args => (Rows.crewsVerifySpecSpec.pre enc Tryz.prog Tryz.f7 [] false w args ∧ laidMetH Tryz.prog laidL w) ∧ sizedMet enc Tryz.prog Tryz.f7 (OpenSpec.ofChange Rows.crewsVerifySpecSpec) false w args) (Rows.crewsVerifySpecSpec.post enc Tryz.prog Tryz.f7 false true false false) := by
 refine returnsInHanded_of_change_and (C := Tryz.checked) (X := fun w _ => laidMetH Tryz.prog laidL w) (fun _ _ _ hh h => h.of_heap hh) Tryz.own started (by kernel_rfl) Tryz.func7
  (ChangeSpec.witness_shaped (enc := enc) (C := Tryz.checked) (os := os) (X := fun w _ => laidMetH Tryz.prog laidL w) false (World.doorLaid Tryz.prog (400) os) #[.slice none 0 0, zeroS] 8 rfl (World.shaped_of_RefB (by kernel_rfl) (by kernel_rfl)) (by kernel_rfl) (by kernel_rfl) (by kernel_rfl) (door_met os _)) ?_
 intro W base args ds gs before hval hW _ hwt hL _
 have hgl := gl_of_laid Tryz.tab Tryz.pok laidL_ok laidL_plain laid_at hL
 exact law_core (fn := Tryz.f7) Tryz.tab Tryz.gok Tryz.laidOut (tb := 4) rfl (fun ds h => by match ds, h with | [d0, d1], _ => rfl) rfl Tryz.underlying4 (by
  intro t ht
  have : t = 22 ∨ t = 70 := by simpa [Tryz.f7] using ht
  rcases this with rfl | rfl <;> exact ⟨rfl, by kernel_rfl, of_decide_eq_true (by kernel_rfl)⟩) (fun xs ha => by
  match xs, ha with
  | [a0, a1], ⟨⟨n0, y0, o0, e0⟩, ⟨⟨n1, y1, o1, e1⟩, _⟩⟩ =>
   obtain ⟨x0, v0, h0⟩ := arg_crews o0
   obtain ⟨x1, v1, h1⟩ := arg_signed o1
   rw [e0, v0, e1, v1]
   exact law_verify x0 h0.1 h0.2 x1 h1.1 h1.2) hval hgl hW hwt
theorem crewsVerifySpec_j0 : (Rows.crewsVerifySpecRow.inPlace == Tryz.prog.inPlace 7) = true := by kernel_rfl
theorem crewsVerifySpec_j1 : (Rows.crewsVerifySpecRow.unfollowed == Tryz.prog.unfollowed 7) = true := by kernel_rfl
theorem crewsVerifySpec_j2 : (Rows.crewsVerifySpecRow.recurses == Tryz.prog.recurses 7) = true := by kernel_rfl
theorem crewsVerifySpec_j3 : (Rows.crewsVerifySpecRow.named == Tryz.prog.varsNamed 7) = true := by kernel_rfl
theorem crewsVerifySpec_joined : joinedFacts Tryz.prog 7 Tryz.f7 Rows.crewsVerifySpecSpec Rows.crewsVerifySpecRow = true := by
 unfold joinedFacts
 rw [crewsVerifySpec_j0, crewsVerifySpec_j1, crewsVerifySpec_j2, crewsVerifySpec_j3]
 kernel_rfl
theorem crewsVerifySpec_holds : Rows.CrewsVerifySpecSaid :=
 OpenClaim.holds_of_wide 7 Tryz.f7 rfl rfl rfl rfl rfl rfl rfl ⟨rfl, rfl, rfl, rfl, rfl⟩ rfl rfl rfl rfl rfl (by kernel_rfl) Tryz.func7 crewsVerifySpec_joined
  (of_decide_eq_true (by kernel_rfl)) (by unfold Func.isWrapper; first | (rw [if_pos (by decide +kernel)]; kernel_rfl) | (rw [if_neg (by decide +kernel)]; exact ⟨rfl, rfl⟩))
  (fun os started H enc _ => r7_lifted os started H enc)
theorem crewsVerifySpec_k0 : Rows.crewsVerifySpecRow.wfByText (OpenSpec.ofChange Rows.crewsVerifySpecSpec) = true := by kernel_rfl
theorem crewsVerifySpec_k1 : Tryz.prog.mainIs = some (true, ("85579bafdf618157d2aa463e13defca1eaca247f4fd272061cce0aa1da9397f5" : String).toList) := by kernel_rfl
theorem crewsVerifySpec_k2 : Tryz.prog.funcNamed "stopwatch/stopwatchlaw13.CrewsVerifySpec" = some 7 := by kernel_rfl
theorem crewsVerifySpec_k3 : false = Tryz.prog.looks [] := by kernel_rfl
theorem crewsVerifySpec_k4 : ([22, 70].all fun u => !Tryz.prog.wantsStandIn u) = true := by kernel_rfl
theorem crewsVerifySpec_k5 : false = Rows.crewsVerifySpecRow.goesBy Tryz.prog := by kernel_rfl
theorem crewsVerifySpec_card : Rows.CrewsVerifySpecCardSaid :=
 Claim7.holds_tied_plain_at .later [] [.widerDeep, .data, .data, .data, .data, .data, .data, .data, .data, .data, .data, .data, .data] true (true, "85579bafdf618157d2aa463e13defca1eaca247f4fd272061cce0aa1da9397f5") false crewsVerifySpec_holds (fun _ h => by cases h) crewsVerifySpec_k0 (fun _ h => by cases h) crewsVerifySpec_row_tie rfl ⟨rfl, rfl⟩ crewsVerifySpec_k1 rfl
  (fun f fn hf hfn => by
   obtain rfl : f = 7 := Option.some.inj (crewsVerifySpec_k2.symm.trans hf) |>.symm
   obtain rfl : fn = Tryz.f7 := (Option.some.inj (Tryz.func7.symm.trans hfn)).symm
   exact ⟨crewsVerifySpec_k3, fun j t ht => by
    have hm : t ∈ [22, 70] := by have := Array.mem_of_getElem? ht; simpa [Tryz.f7] using this
    exact (show Tryz.prog.wantsStandIn t = false by simpa using List.all_eq_true.1 crewsVerifySpec_k4 t hm)⟩)
  crewsVerifySpec_k5
end Go.Proofs.YtnljenjcaeophaaGreatDoor
