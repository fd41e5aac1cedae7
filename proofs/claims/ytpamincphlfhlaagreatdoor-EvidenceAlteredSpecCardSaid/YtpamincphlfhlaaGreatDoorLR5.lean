/-
  The row and the card of EvidenceAlteredSpec: for every input the law returns true, and its arguments read afterwards as before; the variables start as the text lays them.
-/
import Derived.Test.YtpamincphlfhlaaGreatDoorLRl
import Derived.Test.YtpamincphlfhlaaGreatDoorLUx
set_option linter.unusedSectionVars false
set_option linter.unusedSimpArgs false
set_option linter.unusedVariables false
namespace Go.Proofs.YtpamincphlfhlaaGreatDoor
open Go.Xe Go.RowKit

set_option maxRecDepth 100000 in
theorem r5_lifted (os : Os) (started : os.Started) (H : Type) (enc : TypeId × Value → H) :
    ReturnsInHanded {} Tryz.checked os 5 .any (fun w args => (Rows.evidenceAlteredSpecSpec.pre enc Tryz.prog Tryz.f5 [] false w args ∧ laidMetH Tryz.prog laidL w) ∧ sizedMet enc Tryz.prog Tryz.f5 (OpenSpec.ofChange Rows.evidenceAlteredSpecSpec) false w args) (Rows.evidenceAlteredSpecSpec.post enc Tryz.prog Tryz.f5 false true false false) := by
  refine returnsInHanded_of_change_and (C := Tryz.checked) (X := fun w _ => laidMetH Tryz.prog laidL w) (fun _ _ _ hh h => h.of_heap hh) Tryz.own started (by kernel_rfl) Tryz.func5
    (ChangeSpec.witness_shaped (enc := enc) (C := Tryz.checked) (os := os) (X := fun w _ => laidMetH Tryz.prog laidL w) false (World.doorLaid Tryz.prog (400) os) #[zeroL, zeroL] 8 rfl (World.shaped_of_RefB (by kernel_rfl) (by kernel_rfl)) (by kernel_rfl) (by kernel_rfl) (by kernel_rfl) (door_met os _)) ?_
  intro W base args ds gs before hval hW _ hwt hL _
  have hgl := gl_of_laid Tryz.tab Tryz.pok laidL_ok laidL_plain laid_at hL
  exact law_core (fn := Tryz.f5) Tryz.tab Tryz.gok Tryz.laidOut (tb := 4) rfl (fun ds h => by match ds, h with | [d0, d1], _ => rfl) rfl Tryz.underlying4 (by
    intro t ht
    have : t = 25 := by simpa [Tryz.f5] using ht
    subst this
    exact ⟨rfl, by kernel_rfl, of_decide_eq_true (by kernel_rfl)⟩) (fun xs ha => by
    match xs, ha with
    | [a0, a1], ⟨⟨n0, y0, o0, e0⟩, ⟨⟨n1, y1, o1, e1⟩, _⟩⟩ =>
      obtain ⟨x0, v0, h0⟩ := arg_ledger o0
      obtain ⟨x1, v1, h1⟩ := arg_ledger o1
      rw [e0, v0, e1, v1]
      exact law_altered x0 x1 h0.1 h1.1 h0.2.1 h1.2.1 h0.2.2 h1.2.2) hval hgl hW hwt

theorem evidenceAlteredSpec_j0 : (Rows.evidenceAlteredSpecRow.inPlace == Tryz.prog.inPlace 5) = true := by kernel_rfl
theorem evidenceAlteredSpec_j1 : (Rows.evidenceAlteredSpecRow.unfollowed == Tryz.prog.unfollowed 5) = true := by kernel_rfl
theorem evidenceAlteredSpec_j2 : (Rows.evidenceAlteredSpecRow.recurses == Tryz.prog.recurses 5) = true := by kernel_rfl
theorem evidenceAlteredSpec_j3 : (Rows.evidenceAlteredSpecRow.named == Tryz.prog.varsNamed 5) = true := by kernel_rfl
theorem evidenceAlteredSpec_joined : joinedFacts Tryz.prog 5 Tryz.f5 Rows.evidenceAlteredSpecSpec Rows.evidenceAlteredSpecRow = true := by
  unfold joinedFacts
  rw [evidenceAlteredSpec_j0, evidenceAlteredSpec_j1, evidenceAlteredSpec_j2, evidenceAlteredSpec_j3]
  kernel_rfl
theorem evidenceAlteredSpec_holds : Rows.EvidenceAlteredSpecSaid :=
  OpenClaim.holds_of_wide 5 Tryz.f5 rfl rfl rfl rfl rfl rfl rfl ⟨rfl, rfl, rfl, rfl, rfl⟩ rfl rfl rfl rfl rfl (by kernel_rfl) Tryz.func5 evidenceAlteredSpec_joined
    (of_decide_eq_true (by kernel_rfl)) (by unfold Func.isWrapper; first | (rw [if_pos (by decide +kernel)]; kernel_rfl) | (rw [if_neg (by decide +kernel)]; exact ⟨rfl, rfl⟩))
    (fun os started H enc _ => r5_lifted os started H enc)
theorem evidenceAlteredSpec_card : Rows.EvidenceAlteredSpecCardSaid :=
  Claim7.holds_tied_plain_at .later [] [.widerDeep, .data, .data, .data, .data, .data, .data, .data, .data, .data, .data, .data, .data] true (true, "d750b70d1c9c98556f15187789bf825dc375f73c247a2b738a3a852389944693") false evidenceAlteredSpec_holds (fun _ h => by cases h) (by kernel_rfl) (fun _ h => by cases h) evidenceAlteredSpec_row_tie rfl ⟨rfl, rfl⟩ (by kernel_rfl) rfl
    (fun f fn hf hfn => by
      obtain rfl : f = 5 := Option.some.inj ((show Tryz.prog.funcNamed "stopwatch/stopwatchlaw43.EvidenceAlteredSpec" = some 5 by kernel_rfl).symm.trans hf) |>.symm
      obtain rfl : fn = Tryz.f5 := (Option.some.inj (Tryz.func5.symm.trans hfn)).symm
      exact ⟨by kernel_rfl, fun j t ht => by
        have hm : t ∈ [25, 25] := by have := Array.mem_of_getElem? ht; simpa [Tryz.f5] using this
        have hall : ([25, 25].all fun u => !Tryz.prog.wantsStandIn u) = true := by kernel_rfl
        exact (show Tryz.prog.wantsStandIn t = false by simpa using List.all_eq_true.1 hall t hm)⟩)
    (by kernel_rfl)
end Go.Proofs.YtpamincphlfhlaaGreatDoor
