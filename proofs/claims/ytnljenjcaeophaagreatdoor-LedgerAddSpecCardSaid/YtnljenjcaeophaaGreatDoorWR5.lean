/-
  The row and the card of LedgerAddSpec: for every input the law returns true, and its arguments read afterwards as before; the variables start as the text lays them.
-/
import Derived.Test.YtnljenjcaeophaaGreatDoorWRL
import Derived.Test.YtnljenjcaeophaaGreatDoorWWA
set_option linter.unusedVariables false
set_option linter.unusedSimpArgs false
set_option linter.unusedSectionVars false
namespace Go.Proofs.YtnljenjcaeophaaGreatDoor
open Go.Xe Go.RowKit
set_option maxRecDepth 100000 in
theorem q2_ (os : Os) (started : os.Started) (H : Type) (enc : TypeId × Value → H) :
  ReturnsInHanded {} Tryz.checked os 5 .any (fun w args => (Rows.ledgerAddSpecSpec.pre enc Tryz.prog Tryz.f5 [] false w args ∧ laidMetH Tryz.prog laidL w) ∧ sizedMet enc Tryz.prog Tryz.f5 (OpenSpec.ofChange Rows.ledgerAddSpecSpec) false w args) (Rows.ledgerAddSpecSpec.post enc Tryz.prog Tryz.f5 false true false false) := by
 refine returnsInHanded_of_change_and (C := Tryz.checked) (X := fun w _ => laidMetH Tryz.prog laidL w) (fun _ _ _ hh h => h.of_heap hh) uf_ started (by kernel_rfl) Tryz.func5
  (ChangeSpec.witness_shaped (enc := enc) (C := Tryz.checked) (os := os) (X := fun w _ => laidMetH Tryz.prog laidL w) false (World.doorLaid Tryz.prog (400) os) #[.slice none 0 0, .agg #[.slice none 0 0], .agg #[.slice none 0 0], AA_] 8 rfl (World.shaped_of_RefB (by kernel_rfl) (by kernel_rfl)) (by kernel_rfl) (by kernel_rfl) (by kernel_rfl) (tV_ os _)) ?_
 intro W base args ds gs before hval hW _ hwt hL _
 have hgl := pP_ aa_ ue_ ty_ no_ vV_ hL
 exact tx_ (fn := Tryz.f5) aa_ ug_ l6_ (tb := 4) rfl (fun ds h => by match ds, h with | [d0, d1, d2, d3], _ => rfl) rfl Tryz.underlying4 (by
  intro t ht
  have : t = 22 ∨ t = 25 ∨ t = 25 ∨ t = 70 := by simpa [Tryz.f5] using ht
  rcases this with rfl | rfl | rfl | rfl <;> exact ⟨rfl, by kernel_rfl, of_decide_eq_true (by kernel_rfl)⟩) (fun xs ha => by
  match xs, ha with
  | [a0, a1, a2, a3], ⟨⟨n0, y0, o0, e0⟩, ⟨⟨n1, y1, o1, e1⟩, ⟨⟨n2, y2, o2, e2⟩, ⟨⟨n3, y3, o3, e3⟩, _⟩⟩⟩⟩ =>
   obtain ⟨x0, v0, h0⟩ := su_ o0
   obtain ⟨x1, v1, h1⟩ := il_ o1
   obtain ⟨x2, v2, h2⟩ := il_ o2
   obtain ⟨x3, v3, h3⟩ := nK_ o3
   rw [e0, v0, e1, v1, e2, v2, e3, v3]
   exact vU_ x0 h0.1 h0.2 x1 h1.1 h1.2 x2 h2.1 h2.2 x3 h3) hval hgl hW hwt
theorem g9_ : (Rows.ledgerAddSpecRow.inPlace == Tryz.prog.inPlace 5) = true := by kernel_rfl
theorem g8_ : (Rows.ledgerAddSpecRow.unfollowed == Tryz.prog.unfollowed 5) = true := by kernel_rfl
theorem g7_ : (Rows.ledgerAddSpecRow.recurses == Tryz.prog.recurses 5) = true := by kernel_rfl
theorem g6_ : (Rows.ledgerAddSpecRow.named == Tryz.prog.varsNamed 5) = true := by kernel_rfl
theorem ef_ : joinedFacts Tryz.prog 5 Tryz.f5 Rows.ledgerAddSpecSpec Rows.ledgerAddSpecRow = true := by
 unfold joinedFacts
 rw [g9_, g8_, g7_, g6_]
 kernel_rfl
theorem eB_ : Rows.LedgerAddSpecSaid :=
 OpenClaim.holds_of_wide 5 Tryz.f5 rfl rfl rfl rfl rfl rfl rfl ⟨rfl, rfl, rfl, rfl, rfl⟩ rfl rfl rfl rfl rfl (by kernel_rfl) Tryz.func5 ef_
  (of_decide_eq_true (by kernel_rfl)) (by unfold Func.isWrapper; first | (rw [if_pos (by decide +kernel)]; kernel_rfl) | (rw [if_neg (by decide +kernel)]; exact ⟨rfl, rfl⟩))
  (fun os started H enc _ => q2_ os started H enc)
theorem ledgerAddSpec_k0 : Rows.ledgerAddSpecRow.wfByText (OpenSpec.ofChange Rows.ledgerAddSpecSpec) = true := by kernel_rfl
theorem ledgerAddSpec_k1 : Tryz.prog.mainIs = some (true, ("85579bafdf618157d2aa463e13defca1eaca247f4fd272061cce0aa1da9397f5" : String).toList) := by kernel_rfl
theorem ledgerAddSpec_k2 : Tryz.prog.funcNamed "stopwatch/stopwatchlaw14.LedgerAddSpec" = some 5 := by kernel_rfl
theorem g5_ : false = Tryz.prog.looks [] := by kernel_rfl
theorem g4_ : ([22, 25, 25, 70].all fun u => !Tryz.prog.wantsStandIn u) = true := by kernel_rfl
theorem g3_ : false = Rows.ledgerAddSpecRow.goesBy Tryz.prog := by kernel_rfl
theorem ledgerAddSpec_card : Rows.LedgerAddSpecCardSaid :=
 Claim7.holds_tied_plain_at .later [] [.widerDeep, .data, .data, .data, .data, .data, .data, .data, .data, .data, .data, .data, .data] true (true, "85579bafdf618157d2aa463e13defca1eaca247f4fd272061cce0aa1da9397f5") false eB_ (fun _ h => by cases h) ledgerAddSpec_k0 (fun _ h => by cases h) ledgerAddSpec_row_tie rfl ⟨rfl, rfl⟩ ledgerAddSpec_k1 rfl
  (fun f fn hf hfn => by
   obtain rfl : f = 5 := Option.some.inj (ledgerAddSpec_k2.symm.trans hf) |>.symm
   obtain rfl : fn = Tryz.f5 := (Option.some.inj (Tryz.func5.symm.trans hfn)).symm
   exact ⟨g5_, fun j t ht => by
    have hm : t ∈ [22, 25, 25, 70] := by have := Array.mem_of_getElem? ht; simpa [Tryz.f5] using this
    exact (show Tryz.prog.wantsStandIn t = false by simpa using List.all_eq_true.1 g4_ t hm)⟩)
  g3_
end Go.Proofs.YtnljenjcaeophaaGreatDoor
