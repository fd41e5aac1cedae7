/-
  The row and the card of RemoteAgain: for every input the law returns true, and its arguments read afterwards as before; the variables start as the text lays them.
-/
import Derived.Test.YtfgcgagcpnbgmaaGreatDoorQRl
import Derived.Test.YtfgcgagcpnbgmaaGreatDoorQAg
set_option linter.unusedVariables false
set_option linter.unusedSimpArgs false
set_option linter.unusedSectionVars false
namespace Go.Proofs.YtfgcgagcpnbgmaaGreatDoor
open Go.Xe Go.RowKit
set_option maxRecDepth 100000 in
theorem r6_lifted (os : Os) (started : os.Started) (H : Type) (enc : TypeId × Value → H) :
  ReturnsInHanded {} Tryz.checked os 6 .any (fun w args => (Rows.remoteAgainSpec.pre enc Tryz.prog Tryz.f6 [] false w args ∧ laidMetH Tryz.prog laidL w) ∧ sizedMet enc Tryz.prog Tryz.f6 (OpenSpec.ofChange Rows.remoteAgainSpec) false w args) (Rows.remoteAgainSpec.post enc Tryz.prog Tryz.f6 false true false false) := by
 refine returnsInHanded_of_change_and (C := Tryz.checked) (X := fun w _ => laidMetH Tryz.prog laidL w) (fun _ _ _ hh h => h.of_heap hh) Tryz.own started (by kernel_rfl) Tryz.func6
  (ChangeSpec.witness_shaped (enc := enc) (C := Tryz.checked) (os := os) (X := fun w _ => laidMetH Tryz.prog laidL w) false (World.doorLaid Tryz.prog (400) os) #[zeroR, zeroF] 8 rfl (World.shaped_of_RefB (by kernel_rfl) (by kernel_rfl)) (by kernel_rfl) (by kernel_rfl) (by kernel_rfl) (door_met os _)) ?_
 intro W base args ds gs before hval hW _ hwt hL _
 have hgl := gl_of_laid Tryz.tab Tryz.pok laidL_ok laidL_plain laid_at hL
 exact law_core (fn := Tryz.f6) Tryz.tab Tryz.gok Tryz.laidOut (tb := 4) rfl (fun ds h => by match ds, h with | [d0, d1], _ => rfl) rfl Tryz.underlying4 (by
  intro t ht
  have : t = 33 ∨ t = 67 := by simpa [Tryz.f6] using ht
  rcases this with rfl | rfl <;> exact ⟨rfl, by kernel_rfl, of_decide_eq_true (by kernel_rfl)⟩) (fun xs ha => by
  match xs, ha with
  | [a0, a1], ⟨⟨n0, y0, o0, e0⟩, ⟨⟨n1, y1, o1, e1⟩, _⟩⟩ =>
   obtain ⟨x0, v0, h0⟩ := arg_remote o0
   obtain ⟨x1, v1, h1⟩ := arg_fact o1
   rw [e0, v0, e1, v1]
   exact law_again x0 h0 x1 h1) hval hgl hW hwt
theorem remoteAgain_j0 : (Rows.remoteAgainRow.inPlace == Tryz.prog.inPlace 6) = true := by kernel_rfl
theorem remoteAgain_j1 : (Rows.remoteAgainRow.unfollowed == Tryz.prog.unfollowed 6) = true := by kernel_rfl
theorem remoteAgain_j2 : (Rows.remoteAgainRow.recurses == Tryz.prog.recurses 6) = true := by kernel_rfl
theorem remoteAgain_j3 : (Rows.remoteAgainRow.named == Tryz.prog.varsNamed 6) = true := by kernel_rfl
theorem remoteAgain_joined : joinedFacts Tryz.prog 6 Tryz.f6 Rows.remoteAgainSpec Rows.remoteAgainRow = true := by
 unfold joinedFacts
 rw [remoteAgain_j0, remoteAgain_j1, remoteAgain_j2, remoteAgain_j3]
 kernel_rfl
theorem remoteAgain_holds : Rows.RemoteAgainSaid :=
 OpenClaim.holds_of_wide 6 Tryz.f6 rfl rfl rfl rfl rfl rfl rfl ⟨rfl, rfl, rfl, rfl, rfl⟩ rfl rfl rfl rfl rfl (by kernel_rfl) Tryz.func6 remoteAgain_joined
  (of_decide_eq_true (by kernel_rfl)) (by unfold Func.isWrapper; first | (rw [if_pos (by decide +kernel)]; kernel_rfl) | (rw [if_neg (by decide +kernel)]; exact ⟨rfl, rfl⟩))
  (fun os started H enc _ => r6_lifted os started H enc)
theorem remoteAgain_k0 : Rows.remoteAgainRow.wfByText (OpenSpec.ofChange Rows.remoteAgainSpec) = true := by kernel_rfl
theorem remoteAgain_k1 : Tryz.prog.mainIs = some (true, ("f764148190a6db167d136c8786372b7f12f188d73b807f914eb99d55b857976a" : String).toList) := by kernel_rfl
theorem remoteAgain_k2 : Tryz.prog.funcNamed "stopwatch/stopwatchlaw44.RemoteAgain" = some 6 := by kernel_rfl
theorem remoteAgain_k3 : true = Tryz.prog.looks [] := by kernel_rfl
theorem remoteAgain_k4 : ([33, 67].all fun u => !Tryz.prog.wantsStandIn u) = true := by kernel_rfl
theorem remoteAgain_k5 : false = Rows.remoteAgainRow.goesBy Tryz.prog := by kernel_rfl
theorem remoteAgain_card : Rows.RemoteAgainCardSaid :=
 Claim7.holds_tied_plain_at .later [] [.widerDeep, .data, .data, .data, .data, .data, .data, .data, .data, .data, .data, .data, .data] true (true, "f764148190a6db167d136c8786372b7f12f188d73b807f914eb99d55b857976a") true remoteAgain_holds (fun _ h => by cases h) remoteAgain_k0 (fun _ h => by cases h) remoteAgain_row_tie rfl ⟨rfl, rfl⟩ remoteAgain_k1 rfl
  (fun f fn hf hfn => by
   obtain rfl : f = 6 := Option.some.inj (remoteAgain_k2.symm.trans hf) |>.symm
   obtain rfl : fn = Tryz.f6 := (Option.some.inj (Tryz.func6.symm.trans hfn)).symm
   exact ⟨remoteAgain_k3, fun j t ht => by
    have hm : t ∈ [33, 67] := by have := Array.mem_of_getElem? ht; simpa [Tryz.f6] using this
    exact (show Tryz.prog.wantsStandIn t = false by simpa using List.all_eq_true.1 remoteAgain_k4 t hm)⟩)
  remoteAgain_k5
end Go.Proofs.YtfgcgagcpnbgmaaGreatDoor
