/-
  The row and the card of EvidenceMore: for every input the law returns true, and its arguments read afterwards as before; the variables start as the text lays them.
-/
import Derived.Test.YtnljenjcaeophaaGreatDoorKRl
import Derived.Test.YtnljenjcaeophaaGreatDoorKYD
set_option linter.unusedVariables false
set_option linter.unusedSimpArgs false
set_option linter.unusedSectionVars false
namespace Go.Proofs.YtnljenjcaeophaaGreatDoor
open Go.Xe Go.RowKit
set_option maxRecDepth 100000 in
theorem r3_lifted (os : Os) (started : os.Started) (H : Type) (enc : TypeId × Value → H) :
  ReturnsInHanded {} Tryz.checked os 3 .any (fun w args => (Rows.evidenceMoreSpec.pre enc Tryz.prog Tryz.f3 [] false w args ∧ laidMetH Tryz.prog laidL w) ∧ sizedMet enc Tryz.prog Tryz.f3 (OpenSpec.ofChange Rows.evidenceMoreSpec) false w args) (Rows.evidenceMoreSpec.post enc Tryz.prog Tryz.f3 false true false false) := by
 refine returnsInHanded_of_change_and (C := Tryz.checked) (X := fun w _ => laidMetH Tryz.prog laidL w) (fun _ _ _ hh h => h.of_heap hh) Tryz.own started (by kernel_rfl) Tryz.func3
  (ChangeSpec.witness_shaped (enc := enc) (C := Tryz.checked) (os := os) (X := fun w _ => laidMetH Tryz.prog laidL w) false (World.doorLaid Tryz.prog (400) os) #[.slice none 0 0, .agg #[.slice none 0 0], .agg #[.slice none 0 0]] 8 rfl (World.shaped_of_RefB (by kernel_rfl) (by kernel_rfl)) (by kernel_rfl) (by kernel_rfl) (by kernel_rfl) (door_met os _)) ?_
 intro W base args ds gs before hval hW _ hwt hL _
 have hgl := gl_of_laid Tryz.tab Tryz.pok laidL_ok laidL_plain laid_at hL
 exact law_core (fn := Tryz.f3) Tryz.tab Tryz.gok Tryz.laidOut (tb := 4) rfl (fun ds h => by match ds, h with | [d0, d1, d2], _ => rfl) rfl Tryz.underlying4 (by
  intro t ht
  have : t = 22 ∨ t = 25 ∨ t = 25 := by simpa [Tryz.f3] using ht
  rcases this with rfl | rfl | rfl <;> exact ⟨rfl, by kernel_rfl, of_decide_eq_true (by kernel_rfl)⟩) (fun xs ha => by
  match xs, ha with
  | [a0, a1, a2], ⟨⟨n0, y0, o0, e0⟩, ⟨⟨n1, y1, o1, e1⟩, ⟨⟨n2, y2, o2, e2⟩, _⟩⟩⟩ =>
   obtain ⟨x0, v0, h0⟩ := arg_crews o0
   obtain ⟨x1, v1, h1⟩ := arg_ledger o1
   obtain ⟨x2, v2, h2⟩ := arg_ledger o2
   rw [e0, v0, e1, v1, e2, v2]
   exact law_more x0 x1 x2 h0.1 h0.2 h1.1 h2.1 h1.2.1 h2.2.1 h1.2.2 h2.2.2) hval hgl hW hwt
theorem evidenceMore_j0 : (Rows.evidenceMoreRow.inPlace == Tryz.prog.inPlace 3) = true := by kernel_rfl
theorem evidenceMore_j1 : (Rows.evidenceMoreRow.unfollowed == Tryz.prog.unfollowed 3) = true := by kernel_rfl
theorem evidenceMore_j2 : (Rows.evidenceMoreRow.recurses == Tryz.prog.recurses 3) = true := by kernel_rfl
theorem evidenceMore_j3 : (Rows.evidenceMoreRow.named == Tryz.prog.varsNamed 3) = true := by kernel_rfl
theorem evidenceMore_joined : joinedFacts Tryz.prog 3 Tryz.f3 Rows.evidenceMoreSpec Rows.evidenceMoreRow = true := by
 unfold joinedFacts
 rw [evidenceMore_j0, evidenceMore_j1, evidenceMore_j2, evidenceMore_j3]
 kernel_rfl
theorem evidenceMore_holds : Rows.EvidenceMoreSaid :=
 OpenClaim.holds_of_wide 3 Tryz.f3 rfl rfl rfl rfl rfl rfl rfl ⟨rfl, rfl, rfl, rfl, rfl⟩ rfl rfl rfl rfl rfl (by kernel_rfl) Tryz.func3 evidenceMore_joined
  (of_decide_eq_true (by kernel_rfl)) (by unfold Func.isWrapper; first | (rw [if_pos (by decide +kernel)]; kernel_rfl) | (rw [if_neg (by decide +kernel)]; exact ⟨rfl, rfl⟩))
  (fun os started H enc _ => r3_lifted os started H enc)
theorem evidenceMore_k0 : Rows.evidenceMoreRow.wfByText (OpenSpec.ofChange Rows.evidenceMoreSpec) = true := by kernel_rfl
theorem evidenceMore_k1 : Tryz.prog.mainIs = some (true, ("85579bafdf618157d2aa463e13defca1eaca247f4fd272061cce0aa1da9397f5" : String).toList) := by kernel_rfl
theorem evidenceMore_k2 : Tryz.prog.funcNamed "stopwatch/stopwatchlaw43.EvidenceMore" = some 3 := by kernel_rfl
theorem evidenceMore_k3 : false = Tryz.prog.looks [] := by kernel_rfl
theorem evidenceMore_k4 : ([22, 25, 25].all fun u => !Tryz.prog.wantsStandIn u) = true := by kernel_rfl
theorem evidenceMore_k5 : false = Rows.evidenceMoreRow.goesBy Tryz.prog := by kernel_rfl
theorem evidenceMore_card : Rows.EvidenceMoreCardSaid :=
 Claim7.holds_tied_plain_at .later [] [.widerDeep, .data, .data, .data, .data, .data, .data, .data, .data, .data, .data, .data, .data] true (true, "85579bafdf618157d2aa463e13defca1eaca247f4fd272061cce0aa1da9397f5") false evidenceMore_holds (fun _ h => by cases h) evidenceMore_k0 (fun _ h => by cases h) evidenceMore_row_tie rfl ⟨rfl, rfl⟩ evidenceMore_k1 rfl
  (fun f fn hf hfn => by
   obtain rfl : f = 3 := Option.some.inj (evidenceMore_k2.symm.trans hf) |>.symm
   obtain rfl : fn = Tryz.f3 := (Option.some.inj (Tryz.func3.symm.trans hfn)).symm
   exact ⟨evidenceMore_k3, fun j t ht => by
    have hm : t ∈ [22, 25, 25] := by have := Array.mem_of_getElem? ht; simpa [Tryz.f3] using this
    exact (show Tryz.prog.wantsStandIn t = false by simpa using List.all_eq_true.1 evidenceMore_k4 t hm)⟩)
  evidenceMore_k5
end Go.Proofs.YtnljenjcaeophaaGreatDoor
