/-
  The row and the card of LedgerNewSpec: for every input the law returns true, and its arguments read afterwards as before; the variables start as the text lays them.
-/
import Derived.Test.YtnljenjcaeophaaGreatDoorTRL
import Derived.Test.YtnljenjcaeophaaGreatDoorTWA
set_option linter.unusedVariables false
set_option linter.unusedSimpArgs false
set_option linter.unusedSectionVars false
namespace Go.Proofs.YtnljenjcaeophaaGreatDoor
open Go.Xe Go.RowKit
set_option maxRecDepth 100000 in
theorem r4_lifted (os : Os) (started : os.Started) (H : Type) (enc : TypeId × Value → H) :
  ReturnsInHanded {} Tryz.checked os 4 .any (fun w args => (Rows.ledgerNewSpecSpec.pre enc Tryz.prog Tryz.f4 [] false w args ∧ laidMetH Tryz.prog laidL w) ∧ sizedMet enc Tryz.prog Tryz.f4 (OpenSpec.ofChange Rows.ledgerNewSpecSpec) false w args) (Rows.ledgerNewSpecSpec.post enc Tryz.prog Tryz.f4 false true false false) := by
 refine returnsInHanded_of_change_and (C := Tryz.checked) (X := fun w _ => laidMetH Tryz.prog laidL w) (fun _ _ _ hh h => h.of_heap hh) Tryz.own started (by kernel_rfl) Tryz.func4
  (ChangeSpec.witness_shaped (enc := enc) (C := Tryz.checked) (os := os) (X := fun w _ => laidMetH Tryz.prog laidL w) false (World.doorLaid Tryz.prog (400) os) #[.slice none 0 0, .slice none 0 0] 8 rfl (World.shaped_of_RefB (by kernel_rfl) (by kernel_rfl)) (by kernel_rfl) (by kernel_rfl) (by kernel_rfl) (door_met os _)) ?_
 intro W base args ds gs before hval hW _ hwt hL _
 have hgl := gl_of_laid Tryz.tab Tryz.pok laidL_ok laidL_plain laid_at hL
 exact law_core (fn := Tryz.f4) Tryz.tab Tryz.gok Tryz.laidOut (tb := 4) rfl (fun ds h => by match ds, h with | [d0, d1], _ => rfl) rfl Tryz.underlying4 (by
  intro t ht
  have : t = 22 ∨ t = 23 := by simpa [Tryz.f4] using ht
  rcases this with rfl | rfl <;> exact ⟨rfl, by kernel_rfl, of_decide_eq_true (by kernel_rfl)⟩) (fun xs ha => by
  match xs, ha with
  | [a0, a1], ⟨⟨n0, y0, o0, e0⟩, ⟨⟨n1, y1, o1, e1⟩, _⟩⟩ =>
   obtain ⟨x0, v0, h0⟩ := arg_crews o0
   obtain ⟨x1, v1, h1⟩ := arg_signedsT o1
   rw [e0, v0, e1, v1]
   exact law_new x0 h0.1 h0.2 x1 h1.1) hval hgl hW hwt
theorem ledgerNewSpec_j0 : (Rows.ledgerNewSpecRow.inPlace == Tryz.prog.inPlace 4) = true := by kernel_rfl
theorem ledgerNewSpec_j1 : (Rows.ledgerNewSpecRow.unfollowed == Tryz.prog.unfollowed 4) = true := by kernel_rfl
theorem ledgerNewSpec_j2 : (Rows.ledgerNewSpecRow.recurses == Tryz.prog.recurses 4) = true := by kernel_rfl
theorem ledgerNewSpec_j3 : (Rows.ledgerNewSpecRow.named == Tryz.prog.varsNamed 4) = true := by kernel_rfl
theorem ledgerNewSpec_joined : joinedFacts Tryz.prog 4 Tryz.f4 Rows.ledgerNewSpecSpec Rows.ledgerNewSpecRow = true := by
 unfold joinedFacts
 rw [ledgerNewSpec_j0, ledgerNewSpec_j1, ledgerNewSpec_j2, ledgerNewSpec_j3]
 kernel_rfl
theorem ledgerNewSpec_holds : Rows.LedgerNewSpecSaid :=
 OpenClaim.holds_of_wide 4 Tryz.f4 rfl rfl rfl rfl rfl rfl rfl ⟨rfl, rfl, rfl, rfl, rfl⟩ rfl rfl rfl rfl rfl (by kernel_rfl) Tryz.func4 ledgerNewSpec_joined
  (of_decide_eq_true (by kernel_rfl)) (by unfold Func.isWrapper; first | (rw [if_pos (by decide +kernel)]; kernel_rfl) | (rw [if_neg (by decide +kernel)]; exact ⟨rfl, rfl⟩))
  (fun os started H enc _ => r4_lifted os started H enc)
theorem ledgerNewSpec_k0 : Rows.ledgerNewSpecRow.wfByText (OpenSpec.ofChange Rows.ledgerNewSpecSpec) = true := by kernel_rfl
theorem ledgerNewSpec_k1 : Tryz.prog.mainIs = some (true, ("85579bafdf618157d2aa463e13defca1eaca247f4fd272061cce0aa1da9397f5" : String).toList) := by kernel_rfl
theorem ledgerNewSpec_k2 : Tryz.prog.funcNamed "stopwatch/stopwatchlaw14.LedgerNewSpec" = some 4 := by kernel_rfl
theorem ledgerNewSpec_k3 : false = Tryz.prog.looks [] := by kernel_rfl
theorem ledgerNewSpec_k4 : ([22, 23].all fun u => !Tryz.prog.wantsStandIn u) = true := by kernel_rfl
theorem ledgerNewSpec_k5 : false = Rows.ledgerNewSpecRow.goesBy Tryz.prog := by kernel_rfl
theorem ledgerNewSpec_card : Rows.LedgerNewSpecCardSaid :=
 Claim7.holds_tied_plain_at .later [] [.widerDeep, .data, .data, .data, .data, .data, .data, .data, .data, .data, .data, .data, .data] true (true, "85579bafdf618157d2aa463e13defca1eaca247f4fd272061cce0aa1da9397f5") false ledgerNewSpec_holds (fun _ h => by cases h) ledgerNewSpec_k0 (fun _ h => by cases h) ledgerNewSpec_row_tie rfl ⟨rfl, rfl⟩ ledgerNewSpec_k1 rfl
  (fun f fn hf hfn => by
   obtain rfl : f = 4 := Option.some.inj (ledgerNewSpec_k2.symm.trans hf) |>.symm
   obtain rfl : fn = Tryz.f4 := (Option.some.inj (Tryz.func4.symm.trans hfn)).symm
   exact ⟨ledgerNewSpec_k3, fun j t ht => by
    have hm : t ∈ [22, 23] := by have := Array.mem_of_getElem? ht; simpa [Tryz.f4] using this
    exact (show Tryz.prog.wantsStandIn t = false by simpa using List.all_eq_true.1 ledgerNewSpec_k4 t hm)⟩)
  ledgerNewSpec_k5
end Go.Proofs.YtnljenjcaeophaaGreatDoor
