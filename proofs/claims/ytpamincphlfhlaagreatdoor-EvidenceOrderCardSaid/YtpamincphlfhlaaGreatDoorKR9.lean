/-
  The row and the card of EvidenceOrder: for every input the law returns true, and its arguments read afterwards as before; the variables start as the text lays them.
-/
import Derived.Test.YtpamincphlfhlaaGreatDoorKRl
import Derived.Test.YtpamincphlfhlaaGreatDoorKUq
set_option linter.unusedSectionVars false
set_option linter.unusedSimpArgs false
set_option linter.unusedVariables false
namespace Go.Proofs.YtpamincphlfhlaaGreatDoor
open Go.Xe Go.RowKit

set_option maxRecDepth 100000 in
theorem r9_lifted (os : Os) (started : os.Started) (H : Type) (enc : TypeId × Value → H) :
    ReturnsInHanded {} Tryz.checked os 9 .any (fun w args => (Rows.evidenceOrderSpec.pre enc Tryz.prog Tryz.f9 [] false w args ∧ laidMetH Tryz.prog laidL w) ∧ sizedMet enc Tryz.prog Tryz.f9 (OpenSpec.ofChange Rows.evidenceOrderSpec) false w args) (Rows.evidenceOrderSpec.post enc Tryz.prog Tryz.f9 false true false false) := by
  refine returnsInHanded_of_change_and (C := Tryz.checked) (X := fun w _ => laidMetH Tryz.prog laidL w) (fun _ _ _ hh h => h.of_heap hh) Tryz.own started (by kernel_rfl) Tryz.func9
    (ChangeSpec.witness_shaped (enc := enc) (C := Tryz.checked) (os := os) (X := fun w _ => laidMetH Tryz.prog laidL w) false (World.doorLaid Tryz.prog (400) os) #[zeroL, zeroL, .int .i64 0] 8 rfl (World.shaped_of_RefB (by kernel_rfl) (by kernel_rfl)) (by kernel_rfl) (by kernel_rfl) (by kernel_rfl) (door_met os _)) ?_
  intro W base args ds gs before hval hW _ hwt hL _
  have hgl := gl_of_laid Tryz.tab Tryz.pok laidL_ok laidL_plain laid_at hL
  exact law_core (fn := Tryz.f9) Tryz.tab Tryz.gok Tryz.laidOut (tb := 4) rfl (fun ds h => by match ds, h with | [d0, d1, d2], _ => rfl) rfl Tryz.underlying4 (by
    intro t ht
    have : t = 25 ∨ t = 25 ∨ t = 3 := by simpa [Tryz.f9] using ht
    rcases this with rfl | rfl | rfl <;> exact ⟨rfl, by kernel_rfl, of_decide_eq_true (by kernel_rfl)⟩) (fun xs ha => by
    match xs, ha with
    | [a0, a1, a2], ⟨⟨n0, y0, o0, e0⟩, ⟨⟨n1, y1, o1, e1⟩, ⟨⟨n2, y2, o2, e2⟩, _⟩⟩⟩ =>
      obtain ⟨x0, v0, h0⟩ := arg_ledger o0
      obtain ⟨x1, v1, h1⟩ := arg_ledger o1
      obtain ⟨x2, v2, h2⟩ := arg_int o2
      rw [e0, v0, e1, v1, e2, v2]
      exact law_order x0 x1 x2 h0.1 h1.1 h0.2.1 h1.2.1 h0.2.2 h1.2.2 h2) hval hgl hW hwt

theorem evidenceOrder_j0 : (Rows.evidenceOrderRow.inPlace == Tryz.prog.inPlace 9) = true := by kernel_rfl
theorem evidenceOrder_j1 : (Rows.evidenceOrderRow.unfollowed == Tryz.prog.unfollowed 9) = true := by kernel_rfl
theorem evidenceOrder_j2 : (Rows.evidenceOrderRow.recurses == Tryz.prog.recurses 9) = true := by kernel_rfl
theorem evidenceOrder_j3 : (Rows.evidenceOrderRow.named == Tryz.prog.varsNamed 9) = true := by kernel_rfl
theorem evidenceOrder_joined : joinedFacts Tryz.prog 9 Tryz.f9 Rows.evidenceOrderSpec Rows.evidenceOrderRow = true := by
  unfold joinedFacts
  rw [evidenceOrder_j0, evidenceOrder_j1, evidenceOrder_j2, evidenceOrder_j3]
  kernel_rfl
theorem evidenceOrder_holds : Rows.EvidenceOrderSaid :=
  OpenClaim.holds_of_wide 9 Tryz.f9 rfl rfl rfl rfl rfl rfl rfl ⟨rfl, rfl, rfl, rfl, rfl⟩ rfl rfl rfl rfl rfl (by kernel_rfl) Tryz.func9 evidenceOrder_joined
    (of_decide_eq_true (by kernel_rfl)) (by unfold Func.isWrapper; first | (rw [if_pos (by decide +kernel)]; kernel_rfl) | (rw [if_neg (by decide +kernel)]; exact ⟨rfl, rfl⟩))
    (fun os started H enc _ => r9_lifted os started H enc)
theorem evidenceOrder_card : Rows.EvidenceOrderCardSaid :=
  Claim7.holds_tied_plain_at .later [] [.widerDeep, .data, .data, .data, .data, .data, .data, .data, .data, .data, .data, .data, .data] true (true, "d750b70d1c9c98556f15187789bf825dc375f73c247a2b738a3a852389944693") false evidenceOrder_holds (fun _ h => by cases h) (by kernel_rfl) (fun _ h => by cases h) evidenceOrder_row_tie rfl ⟨rfl, rfl⟩ (by kernel_rfl) rfl
    (fun f fn hf hfn => by
      obtain rfl : f = 9 := Option.some.inj ((show Tryz.prog.funcNamed "stopwatch/stopwatchlaw43.EvidenceOrder" = some 9 by kernel_rfl).symm.trans hf) |>.symm
      obtain rfl : fn = Tryz.f9 := (Option.some.inj (Tryz.func9.symm.trans hfn)).symm
      exact ⟨by kernel_rfl, fun j t ht => by
        have hm : t ∈ [25, 25, 3] := by have := Array.mem_of_getElem? ht; simpa [Tryz.f9] using this
        have hall : ([25, 25, 3].all fun u => !Tryz.prog.wantsStandIn u) = true := by kernel_rfl
        exact (show Tryz.prog.wantsStandIn t = false by simpa using List.all_eq_true.1 hall t hm)⟩)
    (by kernel_rfl)
end Go.Proofs.YtpamincphlfhlaaGreatDoor
