/-
  The row and the card of EvidenceFindSpec: for every input the law returns true, and its arguments read afterwards as before; the variables start as the text lays them.
-/
import Derived.Test.YtadfkiigjnbdgaaGreatDoorKRm
import Derived.Test.YtadfkiigjnbdgaaGreatDoorKVi
set_option linter.unusedSectionVars false
set_option linter.unusedSimpArgs false
set_option linter.unusedVariables false
namespace Go.Proofs.YtadfkiigjnbdgaaGreatDoor
open Go.Xe Go.RowKit

set_option maxRecDepth 100000 in
theorem r3_lifted (os : Os) (started : os.Started) (H : Type) (enc : TypeId × Value → H) :
    ReturnsInHanded {} Tryz.checked os 3 .any (fun w args => (Rows.evidenceFindSpecSpec.pre enc Tryz.prog Tryz.f3 [] false w args ∧ laidMetH Tryz.prog laidL w) ∧ sizedMet enc Tryz.prog Tryz.f3 (OpenSpec.ofChange Rows.evidenceFindSpecSpec) false w args) (Rows.evidenceFindSpecSpec.post enc Tryz.prog Tryz.f3 false true false false) := by
  refine returnsInHanded_of_change_and (C := Tryz.checked) (X := fun w _ => laidMetH Tryz.prog laidL w) (fun _ _ _ hh h => h.of_heap hh) Tryz.own started (by kernel_rfl) Tryz.func3
    (ChangeSpec.witness_shaped (enc := enc) (C := Tryz.checked) (os := os) (X := fun w _ => laidMetH Tryz.prog laidL w) false (World.doorLaid Tryz.prog (400) os) #[zeroL, zeroL, zeroR] 8 rfl (World.shaped_of_RefB (by kernel_rfl) (by kernel_rfl)) (by kernel_rfl) (by kernel_rfl) (by kernel_rfl) (door_met os _)) ?_
  intro W base args ds gs before hval hW _ hwt hL _
  have hgl := gl_of_laid Tryz.tab Tryz.pok laidL_ok laidL_plain laid_at hL
  exact law_core (fn := Tryz.f3) Tryz.tab Tryz.gok Tryz.laidOut (tb := 4) rfl (fun ds h => by match ds, h with | [d0, d1, d2], _ => rfl) rfl Tryz.underlying4 (by
    intro t ht
    have : t = 24 ∨ t = 24 ∨ t = 26 := by simpa [Tryz.f3] using ht
    rcases this with rfl | rfl | rfl <;> exact ⟨rfl, by kernel_rfl, of_decide_eq_true (by kernel_rfl)⟩) (fun xs ha => by
    match xs, ha with
    | [a0, a1, a2], ⟨⟨n0, y0, o0, e0⟩, ⟨⟨n1, y1, o1, e1⟩, ⟨⟨n2, y2, o2, e2⟩, _⟩⟩⟩ =>
      obtain ⟨x0, v0, h0⟩ := arg_ledgerG o0
      obtain ⟨x1, v1, h1⟩ := arg_ledgerG o1
      obtain ⟨x2, v2, h2⟩ := arg_ref o2
      rw [e0, v0, e1, v1, e2, v2]
      exact law_find x0 x1 x2 h0.1 h1.1 h0.2.1 h1.2.1 h0.2.2 h1.2.2 h2.1 h2.2) hval hgl hW hwt

theorem evidenceFindSpec_j0 : (Rows.evidenceFindSpecRow.inPlace == Tryz.prog.inPlace 3) = true := by kernel_rfl
theorem evidenceFindSpec_j1 : (Rows.evidenceFindSpecRow.unfollowed == Tryz.prog.unfollowed 3) = true := by kernel_rfl
theorem evidenceFindSpec_j2 : (Rows.evidenceFindSpecRow.recurses == Tryz.prog.recurses 3) = true := by kernel_rfl
theorem evidenceFindSpec_j3 : (Rows.evidenceFindSpecRow.named == Tryz.prog.varsNamed 3) = true := by kernel_rfl
theorem evidenceFindSpec_joined : joinedFacts Tryz.prog 3 Tryz.f3 Rows.evidenceFindSpecSpec Rows.evidenceFindSpecRow = true := by
  unfold joinedFacts
  rw [evidenceFindSpec_j0, evidenceFindSpec_j1, evidenceFindSpec_j2, evidenceFindSpec_j3]
  kernel_rfl
theorem evidenceFindSpec_holds : Rows.EvidenceFindSpecSaid :=
  OpenClaim.holds_of_wide 3 Tryz.f3 rfl rfl rfl rfl rfl rfl rfl ⟨rfl, rfl, rfl, rfl, rfl⟩ rfl rfl rfl rfl rfl (by kernel_rfl) Tryz.func3 evidenceFindSpec_joined
    (of_decide_eq_true (by kernel_rfl)) (by unfold Func.isWrapper; first | (rw [if_pos (by decide +kernel)]; kernel_rfl) | (rw [if_neg (by decide +kernel)]; exact ⟨rfl, rfl⟩))
    (fun os started H enc _ => r3_lifted os started H enc)
theorem evidenceFindSpec_card : Rows.EvidenceFindSpecCardSaid :=
  Claim7.holds_tied_plain_at .later [] [.widerDeep, .data, .data, .data, .data, .data, .data, .data, .data, .data, .data, .data, .data] true (true, "8ac1c81b896f3aa26b4ba37367be58f9f6fc181fa42136e0c99f0e4ea967a48c") false evidenceFindSpec_holds (fun _ h => by cases h) (by kernel_rfl) (fun _ h => by cases h) evidenceFindSpec_row_tie rfl ⟨rfl, rfl⟩ (by kernel_rfl) rfl
    (fun f fn hf hfn => by
      obtain rfl : f = 3 := Option.some.inj ((show Tryz.prog.funcNamed "stopwatch/stopwatchlaw43.EvidenceFindSpec" = some 3 by kernel_rfl).symm.trans hf) |>.symm
      obtain rfl : fn = Tryz.f3 := (Option.some.inj (Tryz.func3.symm.trans hfn)).symm
      exact ⟨by kernel_rfl, fun j t ht => by
        have hm : t ∈ [24, 24, 26] := by have := Array.mem_of_getElem? ht; simpa [Tryz.f3] using this
        have hall : ([24, 24, 26].all fun u => !Tryz.prog.wantsStandIn u) = true := by kernel_rfl
        exact (show Tryz.prog.wantsStandIn t = false by simpa using List.all_eq_true.1 hall t hm)⟩)
    (by kernel_rfl)
end Go.Proofs.YtadfkiigjnbdgaaGreatDoor
