/-
  The row and the card of CrewsSignSpec: for every input the law returns true, and its arguments read afterwards as before; the variables start as the text lays them.
-/
import Derived.Test.YtnljenjcaeophaaGreatDoorSRl
import Derived.Test.YtnljenjcaeophaaGreatDoorSTS
set_option linter.unusedVariables false
set_option linter.unusedSimpArgs false
set_option linter.unusedSectionVars false
namespace Go.Proofs.YtnljenjcaeophaaGreatDoor
open Go.Xe Go.RowKit
set_option maxRecDepth 100000 in
theorem r6_lifted (os : Os) (started : os.Started) (H : Type) (enc : TypeId × Value → H) :
  ReturnsInHanded {} Tryz.checked os 6 .any (fun w args => (Rows.crewsSignSpecSpec.pre enc Tryz.prog Tryz.f6 [] false w args ∧ laidMetH Tryz.prog laidL w) ∧ sizedMet enc Tryz.prog Tryz.f6 (OpenSpec.ofChange Rows.crewsSignSpecSpec) false w args) (Rows.crewsSignSpecSpec.post enc Tryz.prog Tryz.f6 false true false false) := by
 refine returnsInHanded_of_change_and (C := Tryz.checked) (X := fun w _ => laidMetH Tryz.prog laidL w) (fun _ _ _ hh h => h.of_heap hh) Tryz.own started (by kernel_rfl) Tryz.func6
  (ChangeSpec.witness_shaped (enc := enc) (C := Tryz.checked) (os := os) (X := fun w _ => laidMetH Tryz.prog laidL w) false (World.doorLaid Tryz.prog (400) os) #[.agg #[.slice none 0 0, .int .i64 0, .int .i64 0], zeroF] 8 rfl (World.shaped_of_RefB (by kernel_rfl) (by kernel_rfl)) (by kernel_rfl) (by kernel_rfl) (by kernel_rfl) (door_met os _)) ?_
 intro W base args ds gs before hval hW _ hwt hL _
 have hgl := gl_of_laid Tryz.tab Tryz.pok laidL_ok laidL_plain laid_at hL
 exact law_core (fn := Tryz.f6) Tryz.tab Tryz.gok Tryz.laidOut (tb := 4) rfl (fun ds h => by match ds, h with | [d0, d1], _ => rfl) rfl Tryz.underlying4 (by
  intro t ht
  have : t = 76 ∨ t = 65 := by simpa [Tryz.f6] using ht
  rcases this with rfl | rfl <;> exact ⟨rfl, by kernel_rfl, of_decide_eq_true (by kernel_rfl)⟩) (fun xs ha => by
  match xs, ha with
  | [a0, a1], ⟨⟨n0, y0, o0, e0⟩, ⟨⟨n1, y1, o1, e1⟩, _⟩⟩ =>
   obtain ⟨x0, v0, h0⟩ := arg_key o0
   obtain ⟨x1, v1, h1⟩ := arg_fact o1
   rw [e0, v0, e1, v1]
   exact law_sign x0.1 x0.2.1 x0.2.2 x1 h1) hval hgl hW hwt
theorem crewsSignSpec_j0 : (Rows.crewsSignSpecRow.inPlace == Tryz.prog.inPlace 6) = true := by kernel_rfl
theorem crewsSignSpec_j1 : (Rows.crewsSignSpecRow.unfollowed == Tryz.prog.unfollowed 6) = true := by kernel_rfl
theorem crewsSignSpec_j2 : (Rows.crewsSignSpecRow.recurses == Tryz.prog.recurses 6) = true := by kernel_rfl
theorem crewsSignSpec_j3 : (Rows.crewsSignSpecRow.named == Tryz.prog.varsNamed 6) = true := by kernel_rfl
theorem crewsSignSpec_joined : joinedFacts Tryz.prog 6 Tryz.f6 Rows.crewsSignSpecSpec Rows.crewsSignSpecRow = true := by
 unfold joinedFacts
 rw [crewsSignSpec_j0, crewsSignSpec_j1, crewsSignSpec_j2, crewsSignSpec_j3]
 kernel_rfl
theorem crewsSignSpec_holds : Rows.CrewsSignSpecSaid :=
 OpenClaim.holds_of_wide 6 Tryz.f6 rfl rfl rfl rfl rfl rfl rfl ⟨rfl, rfl, rfl, rfl, rfl⟩ rfl rfl rfl rfl rfl (by kernel_rfl) Tryz.func6 crewsSignSpec_joined
  (of_decide_eq_true (by kernel_rfl)) (by unfold Func.isWrapper; first | (rw [if_pos (by decide +kernel)]; kernel_rfl) | (rw [if_neg (by decide +kernel)]; exact ⟨rfl, rfl⟩))
  (fun os started H enc _ => r6_lifted os started H enc)
theorem crewsSignSpec_k0 : Rows.crewsSignSpecRow.wfByText (OpenSpec.ofChange Rows.crewsSignSpecSpec) = true := by kernel_rfl
theorem crewsSignSpec_k1 : Tryz.prog.mainIs = some (true, ("85579bafdf618157d2aa463e13defca1eaca247f4fd272061cce0aa1da9397f5" : String).toList) := by kernel_rfl
theorem crewsSignSpec_k2 : Tryz.prog.funcNamed "stopwatch/stopwatchlaw13.CrewsSignSpec" = some 6 := by kernel_rfl
theorem crewsSignSpec_k3 : false = Tryz.prog.looks [] := by kernel_rfl
theorem crewsSignSpec_k4 : ([76, 65].all fun u => !Tryz.prog.wantsStandIn u) = true := by kernel_rfl
theorem crewsSignSpec_k5 : false = Rows.crewsSignSpecRow.goesBy Tryz.prog := by kernel_rfl
theorem crewsSignSpec_card : Rows.CrewsSignSpecCardSaid :=
 Claim7.holds_tied_plain_at .later [] [.widerDeep, .data, .data, .data, .data, .data, .data, .data, .data, .data, .data, .data, .data] true (true, "85579bafdf618157d2aa463e13defca1eaca247f4fd272061cce0aa1da9397f5") false crewsSignSpec_holds (fun _ h => by cases h) crewsSignSpec_k0 (fun _ h => by cases h) crewsSignSpec_row_tie rfl ⟨rfl, rfl⟩ crewsSignSpec_k1 rfl
  (fun f fn hf hfn => by
   obtain rfl : f = 6 := Option.some.inj (crewsSignSpec_k2.symm.trans hf) |>.symm
   obtain rfl : fn = Tryz.f6 := (Option.some.inj (Tryz.func6.symm.trans hfn)).symm
   exact ⟨crewsSignSpec_k3, fun j t ht => by
    have hm : t ∈ [76, 65] := by have := Array.mem_of_getElem? ht; simpa [Tryz.f6] using this
    exact (show Tryz.prog.wantsStandIn t = false by simpa using List.all_eq_true.1 crewsSignSpec_k4 t hm)⟩)
  crewsSignSpec_k5
end Go.Proofs.YtnljenjcaeophaaGreatDoor
