/-
  The row and the card of rulingsPrevail: for every input the law returns true, and its argument reads afterwards as before; the variables start as the program's text lays them.
-/
import Derived.Test.YtjjaabidbeoomaaDoorKRl
import Derived.Test.YtjjaabidbeoomaaDoorKWd
set_option linter.unusedSectionVars false
set_option linter.unusedSimpArgs false
set_option linter.unusedVariables false
namespace Go.Proofs.YtjjaabidbeoomaaDoor
open Go.Xe Go.RowKit

set_option maxRecDepth 100000 in
theorem r4_lifted (os : Os) (started : os.Started) (H : Type) (enc : TypeId × Value → H) :
    ReturnsInHanded {} Tryd.checked os 4 .any (fun w args => (Rows.rulingsPrevailSpec.pre enc Tryd.prog Tryd.f4 [] false w args ∧ laidMetH Tryd.prog laidL w) ∧ sizedMet enc Tryd.prog Tryd.f4 (OpenSpec.ofChange Rows.rulingsPrevailSpec) false w args) (Rows.rulingsPrevailSpec.post enc Tryd.prog Tryd.f4 false true false false) := by
  refine returnsInHanded_of_change_and (C := Tryd.checked) (X := fun w _ => laidMetH Tryd.prog laidL w) (fun _ _ _ hh h => h.of_heap hh) Tryd.own started (by kernel_rfl) Tryd.func4
    (ChangeSpec.witness_shaped (enc := enc) (C := Tryd.checked) (os := os) (X := fun w _ => laidMetH Tryd.prog laidL w) false (World.doorLaid Tryd.prog (400) os) #[.slice none 0 0] 8 rfl (World.shaped_of_RefB (by kernel_rfl) (by kernel_rfl)) (by kernel_rfl) (by kernel_rfl) (by kernel_rfl) (door_met os _)) ?_
  intro W base args ds gs before hval hW _ hwt hL _
  have hgl := gl_of_laid Tryd.tab Tryd.pok laidL_ok laidL_plain laid_at hL
  exact law_core (fn := Tryd.f4) Tryd.tab Tryd.gok Tryd.laidOut (tb := 4) rfl (fun ds h => by match ds, h with | [d0], _ => rfl) rfl Tryd.underlying4 (by
    intro t ht
    have : t = 22 := by simpa [Tryd.f4] using ht
    subst this
    exact ⟨rfl, by kernel_rfl, of_decide_eq_true (by kernel_rfl)⟩) (fun xs ha => by
    match xs, ha with
    | [a0], ⟨⟨n0, y0, o0, e0⟩, _⟩ =>
      obtain ⟨x0, v0, h0⟩ := arg_facts o0
      rw [e0, v0]
      exact law_prevail x0 h0.2 h0.1) hval hgl hW hwt

theorem rulingsPrevail_holds : Rows.RulingsPrevailSaid :=
  OpenClaim.holds_of_wide 4 Tryd.f4 rfl rfl rfl rfl rfl rfl rfl ⟨rfl, rfl, rfl, rfl, rfl⟩ rfl rfl rfl rfl rfl (by kernel_rfl) Tryd.func4 (by kernel_rfl)
    (of_decide_eq_true (by kernel_rfl)) (by unfold Func.isWrapper; first | (rw [if_pos (by decide +kernel)]; kernel_rfl) | (rw [if_neg (by decide +kernel)]; exact ⟨rfl, rfl⟩))
    (fun os started H enc _ => r4_lifted os started H enc)
theorem rulingsPrevail_card : Rows.RulingsPrevailCardSaid :=
  Claim7.holds_tied_plain_at .later [] [.data, .data, .data, .data, .data, .data, .data, .data, .data, .data, .data] true (true, "2995bf8852787ade057219681cbc1b00e1baf72ff4e3dc25f6fa840bd7f2235f") false rulingsPrevail_holds (fun _ h => by cases h) (by kernel_rfl) (fun _ h => by cases h) rulingsPrevail_row_tie rfl ⟨rfl, rfl⟩ (by kernel_rfl) rfl
    (fun f fn hf hfn => by
      obtain rfl : f = 4 := Option.some.inj ((show Tryd.prog.funcNamed "stopwatch/stopwatchlaw20.RulingsPrevail" = some 4 by kernel_rfl).symm.trans hf) |>.symm
      obtain rfl : fn = Tryd.f4 := (Option.some.inj (Tryd.func4.symm.trans hfn)).symm
      exact ⟨by kernel_rfl, fun j t ht => by
        have hm : t ∈ [22] := by have := Array.mem_of_getElem? ht; simpa [Tryd.f4] using this
        have hall : ([22].all fun u => !Tryd.prog.wantsStandIn u) = true := by kernel_rfl
        exact (show Tryd.prog.wantsStandIn t = false by simpa using List.all_eq_true.1 hall t hm)⟩)
    (by kernel_rfl)
end Go.Proofs.YtjjaabidbeoomaaDoor
