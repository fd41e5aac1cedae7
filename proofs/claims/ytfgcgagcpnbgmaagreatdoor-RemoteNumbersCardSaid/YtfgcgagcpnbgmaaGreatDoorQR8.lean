/-
  The row and the card of RemoteNumbers: for every input the law returns true, and its arguments read afterwards as before; the variables start as the text lays them.
-/
import Derived.Test.YtfgcgagcpnbgmaaGreatDoorQRl
import Derived.Test.YtfgcgagcpnbgmaaGreatDoorQOz
set_option linter.unusedVariables false
set_option linter.unusedSimpArgs false
set_option linter.unusedSectionVars false
namespace Go.Proofs.YtfgcgagcpnbgmaaGreatDoor
open Go.Xe Go.RowKit
set_option maxRecDepth 100000 in
theorem r8_lifted (os : Os) (started : os.Started) (H : Type) (enc : TypeId × Value → H) :
  ReturnsInHanded {} Tryz.checked os 8 .any (fun w args => (Rows.remoteNumbersSpec.pre enc Tryz.prog Tryz.f8 [] false w args ∧ laidMetH Tryz.prog laidL w) ∧ sizedMet enc Tryz.prog Tryz.f8 (OpenSpec.ofChange Rows.remoteNumbersSpec) false w args) (Rows.remoteNumbersSpec.post enc Tryz.prog Tryz.f8 false true false false) := by
 refine returnsInHanded_of_change_and (C := Tryz.checked) (X := fun w _ => laidMetH Tryz.prog laidL w) (fun _ _ _ hh h => h.of_heap hh) Tryz.own started (by kernel_rfl) Tryz.func8
  (ChangeSpec.witness_shaped (enc := enc) (C := Tryz.checked) (os := os) (X := fun w _ => laidMetH Tryz.prog laidL w) false (World.doorLaid Tryz.prog (400) os) #[zeroR] 8 rfl (World.shaped_of_RefB (by kernel_rfl) (by kernel_rfl)) (by kernel_rfl) (by kernel_rfl) (by kernel_rfl) (door_met os _)) ?_
 intro W base args ds gs before hval hW _ hwt hL _
 have hgl := gl_of_laid Tryz.tab Tryz.pok laidL_ok laidL_plain laid_at hL
 exact law_core (fn := Tryz.f8) Tryz.tab Tryz.gok Tryz.laidOut (tb := 4) rfl (fun ds h => by match ds, h with | [d0], _ => rfl) rfl Tryz.underlying4 (by
  intro t ht
  have : t = 33 := by simpa [Tryz.f8] using ht
  subst this
  exact ⟨rfl, by kernel_rfl, of_decide_eq_true (by kernel_rfl)⟩) (fun xs ha => by
  match xs, ha with
  | [a0], ⟨⟨n0, y0, o0, e0⟩, _⟩ =>
   obtain ⟨x0, v0, h0⟩ := arg_remote o0
   rw [e0, v0]
   exact law_numbers x0 h0) hval hgl hW hwt
theorem remoteNumbers_j0 : (Rows.remoteNumbersRow.inPlace == Tryz.prog.inPlace 8) = true := by kernel_rfl
theorem remoteNumbers_j1 : (Rows.remoteNumbersRow.unfollowed == Tryz.prog.unfollowed 8) = true := by kernel_rfl
theorem remoteNumbers_j2 : (Rows.remoteNumbersRow.recurses == Tryz.prog.recurses 8) = true := by kernel_rfl
theorem remoteNumbers_j3 : (Rows.remoteNumbersRow.named == Tryz.prog.varsNamed 8) = true := by kernel_rfl
theorem remoteNumbers_joined : joinedFacts Tryz.prog 8 Tryz.f8 Rows.remoteNumbersSpec Rows.remoteNumbersRow = true := by
 unfold joinedFacts
 rw [remoteNumbers_j0, remoteNumbers_j1, remoteNumbers_j2, remoteNumbers_j3]
 kernel_rfl
theorem remoteNumbers_holds : Rows.RemoteNumbersSaid :=
 OpenClaim.holds_of_wide 8 Tryz.f8 rfl rfl rfl rfl rfl rfl rfl ⟨rfl, rfl, rfl, rfl, rfl⟩ rfl rfl rfl rfl rfl (by kernel_rfl) Tryz.func8 remoteNumbers_joined
  (of_decide_eq_true (by kernel_rfl)) (by unfold Func.isWrapper; first | (rw [if_pos (by decide +kernel)]; kernel_rfl) | (rw [if_neg (by decide +kernel)]; exact ⟨rfl, rfl⟩))
  (fun os started H enc _ => r8_lifted os started H enc)
theorem remoteNumbers_k0 : Rows.remoteNumbersRow.wfByText (OpenSpec.ofChange Rows.remoteNumbersSpec) = true := by kernel_rfl
theorem remoteNumbers_k1 : Tryz.prog.mainIs = some (true, ("f764148190a6db167d136c8786372b7f12f188d73b807f914eb99d55b857976a" : String).toList) := by kernel_rfl
theorem remoteNumbers_k2 : Tryz.prog.funcNamed "stopwatch/stopwatchlaw44.RemoteNumbers" = some 8 := by kernel_rfl
theorem remoteNumbers_k3 : true = Tryz.prog.looks [] := by kernel_rfl
theorem remoteNumbers_k4 : ([33].all fun u => !Tryz.prog.wantsStandIn u) = true := by kernel_rfl
theorem remoteNumbers_k5 : false = Rows.remoteNumbersRow.goesBy Tryz.prog := by kernel_rfl
theorem remoteNumbers_card : Rows.RemoteNumbersCardSaid :=
 Claim7.holds_tied_plain_at .later [] [.widerDeep, .data, .data, .data, .data, .data, .data, .data, .data, .data, .data, .data, .data] true (true, "f764148190a6db167d136c8786372b7f12f188d73b807f914eb99d55b857976a") true remoteNumbers_holds (fun _ h => by cases h) remoteNumbers_k0 (fun _ h => by cases h) remoteNumbers_row_tie rfl ⟨rfl, rfl⟩ remoteNumbers_k1 rfl
  (fun f fn hf hfn => by
   obtain rfl : f = 8 := Option.some.inj (remoteNumbers_k2.symm.trans hf) |>.symm
   obtain rfl : fn = Tryz.f8 := (Option.some.inj (Tryz.func8.symm.trans hfn)).symm
   exact ⟨remoteNumbers_k3, fun j t ht => by
    have hm : t ∈ [33] := by have := Array.mem_of_getElem? ht; simpa [Tryz.f8] using this
    exact (show Tryz.prog.wantsStandIn t = false by simpa using List.all_eq_true.1 remoteNumbers_k4 t hm)⟩)
  remoteNumbers_k5
end Go.Proofs.YtfgcgagcpnbgmaaGreatDoor
