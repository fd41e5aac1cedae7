/-
  The row and the card of RemoteAltered: for every input the law returns true, and its arguments read afterwards as before; the variables start as the text lays them.
-/
import Derived.Test.YtfgcgagcpnbgmaaGreatDoorQRl
import Derived.Test.YtfgcgagcpnbgmaaGreatDoorQOy
set_option linter.unusedVariables false
set_option linter.unusedSimpArgs false
set_option linter.unusedSectionVars false
namespace Go.Proofs.YtfgcgagcpnbgmaaGreatDoor
open Go.Xe Go.RowKit
set_option maxRecDepth 100000 in
theorem r7_lifted (os : Os) (started : os.Started) (H : Type) (enc : TypeId × Value → H) :
  ReturnsInHanded {} Tryz.checked os 7 .any (fun w args => (Rows.remoteAlteredSpec.pre enc Tryz.prog Tryz.f7 [] false w args ∧ laidMetH Tryz.prog laidL w) ∧ sizedMet enc Tryz.prog Tryz.f7 (OpenSpec.ofChange Rows.remoteAlteredSpec) false w args) (Rows.remoteAlteredSpec.post enc Tryz.prog Tryz.f7 false true false false) := by
 refine returnsInHanded_of_change_and (C := Tryz.checked) (X := fun w _ => laidMetH Tryz.prog laidL w) (fun _ _ _ hh h => h.of_heap hh) Tryz.own started (by kernel_rfl) Tryz.func7
  (ChangeSpec.witness_shaped (enc := enc) (C := Tryz.checked) (os := os) (X := fun w _ => laidMetH Tryz.prog laidL w) false (World.doorLaid Tryz.prog (400) os) #[zeroR, .int .u64 0, .int .u8 0, zeroF] 8 rfl (World.shaped_of_RefB (by kernel_rfl) (by kernel_rfl)) (by kernel_rfl) (by kernel_rfl) (by kernel_rfl) (door_met os _)) ?_
 intro W base args ds gs before hval hW _ hwt hL _
 have hgl := gl_of_laid Tryz.tab Tryz.pok laidL_ok laidL_plain laid_at hL
 exact law_core (fn := Tryz.f7) Tryz.tab Tryz.gok Tryz.laidOut (tb := 4) rfl (fun ds h => by match ds, h with | [d0, d1, d2, d3], _ => rfl) rfl Tryz.underlying4 (by
  intro t ht
  have : t = 33 ∨ t = 77 ∨ t = 5 ∨ t = 67 := by simpa [Tryz.f7] using ht
  rcases this with rfl | rfl | rfl | rfl <;> exact ⟨rfl, by kernel_rfl, of_decide_eq_true (by kernel_rfl)⟩) (fun xs ha => by
  match xs, ha with
  | [a0, a1, a2, a3], ⟨⟨n0, y0, o0, e0⟩, ⟨⟨n1, y1, o1, e1⟩, ⟨⟨n2, y2, o2, e2⟩, ⟨⟨n3, y3, o3, e3⟩, _⟩⟩⟩⟩ =>
   obtain ⟨x0, v0, h0⟩ := arg_remote o0
   obtain ⟨x1, v1, h1⟩ := arg_uint o1
   obtain ⟨x2, v2, h2⟩ := arg_byte o2
   obtain ⟨x3, v3, h3⟩ := arg_fact o3
   rw [e0, v0, e1, v1, e2, v2, e3, v3]
   exact law_altered x0 h0 x1 h1.1 h1.2 x2 x3 h3) hval hgl hW hwt
theorem remoteAltered_j0 : (Rows.remoteAlteredRow.inPlace == Tryz.prog.inPlace 7) = true := by kernel_rfl
theorem remoteAltered_j1 : (Rows.remoteAlteredRow.unfollowed == Tryz.prog.unfollowed 7) = true := by kernel_rfl
theorem remoteAltered_j2 : (Rows.remoteAlteredRow.recurses == Tryz.prog.recurses 7) = true := by kernel_rfl
theorem remoteAltered_j3 : (Rows.remoteAlteredRow.named == Tryz.prog.varsNamed 7) = true := by kernel_rfl
theorem remoteAltered_joined : joinedFacts Tryz.prog 7 Tryz.f7 Rows.remoteAlteredSpec Rows.remoteAlteredRow = true := by
 unfold joinedFacts
 rw [remoteAltered_j0, remoteAltered_j1, remoteAltered_j2, remoteAltered_j3]
 kernel_rfl
theorem remoteAltered_holds : Rows.RemoteAlteredSaid :=
 OpenClaim.holds_of_wide 7 Tryz.f7 rfl rfl rfl rfl rfl rfl rfl ⟨rfl, rfl, rfl, rfl, rfl⟩ rfl rfl rfl rfl rfl (by kernel_rfl) Tryz.func7 remoteAltered_joined
  (of_decide_eq_true (by kernel_rfl)) (by unfold Func.isWrapper; first | (rw [if_pos (by decide +kernel)]; kernel_rfl) | (rw [if_neg (by decide +kernel)]; exact ⟨rfl, rfl⟩))
  (fun os started H enc _ => r7_lifted os started H enc)
theorem remoteAltered_k0 : Rows.remoteAlteredRow.wfByText (OpenSpec.ofChange Rows.remoteAlteredSpec) = true := by kernel_rfl
theorem remoteAltered_k1 : Tryz.prog.mainIs = some (true, ("f764148190a6db167d136c8786372b7f12f188d73b807f914eb99d55b857976a" : String).toList) := by kernel_rfl
theorem remoteAltered_k2 : Tryz.prog.funcNamed "stopwatch/stopwatchlaw44.RemoteAltered" = some 7 := by kernel_rfl
theorem remoteAltered_k3 : true = Tryz.prog.looks [] := by kernel_rfl
theorem remoteAltered_k4 : ([33, 77, 5, 67].all fun u => !Tryz.prog.wantsStandIn u) = true := by kernel_rfl
theorem remoteAltered_k5 : false = Rows.remoteAlteredRow.goesBy Tryz.prog := by kernel_rfl
theorem remoteAltered_card : Rows.RemoteAlteredCardSaid :=
 Claim7.holds_tied_plain_at .later [] [.widerDeep, .data, .data, .data, .data, .data, .data, .data, .data, .data, .data, .data, .data] true (true, "f764148190a6db167d136c8786372b7f12f188d73b807f914eb99d55b857976a") true remoteAltered_holds (fun _ h => by cases h) remoteAltered_k0 (fun _ h => by cases h) remoteAltered_row_tie rfl ⟨rfl, rfl⟩ remoteAltered_k1 rfl
  (fun f fn hf hfn => by
   obtain rfl : f = 7 := Option.some.inj (remoteAltered_k2.symm.trans hf) |>.symm
   obtain rfl : fn = Tryz.f7 := (Option.some.inj (Tryz.func7.symm.trans hfn)).symm
   exact ⟨remoteAltered_k3, fun j t ht => by
    have hm : t ∈ [33, 77, 5, 67] := by have := Array.mem_of_getElem? ht; simpa [Tryz.f7] using this
    exact (show Tryz.prog.wantsStandIn t = false by simpa using List.all_eq_true.1 remoteAltered_k4 t hm)⟩)
  remoteAltered_k5
end Go.Proofs.YtfgcgagcpnbgmaaGreatDoor
