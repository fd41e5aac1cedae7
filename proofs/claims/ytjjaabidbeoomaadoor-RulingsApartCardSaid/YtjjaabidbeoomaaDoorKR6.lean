/-
  The row and the card of rulingsApart: for every input the law returns true, and its arguments read afterwards as before; the variables start as the program's text lays them.
-/
import Derived.Test.YtjjaabidbeoomaaDoorKRl
import Derived.Test.YtjjaabidbeoomaaDoorKWa
set_option linter.unusedSectionVars false
set_option linter.unusedSimpArgs false
set_option linter.unusedVariables false
namespace Go.Proofs.YtjjaabidbeoomaaDoor
open Go.Xe Go.RowKit

theorem ok_int {n : Nat} {ds : List D} (h : OkD Tryd.τ n 3 ds) : ∃ x, ds = [.v (.int .i64 x)] ∧ isI x := by
  cases n with
  | zero => exact h.elim
  | succ n =>
    simp only [OkD, Tryd.τ3] at h
    exact h
theorem arg_int {n : Nat} {ds : List D} (h : OkD Tryd.τ n 3 ds) : ∃ x, argOf Tryd.τ 3 ds = .v (.int .i64 x) ∧ isI x := by
  obtain ⟨x, rfl, hx⟩ := ok_int h
  exact ⟨x, rfl, hx⟩
set_option maxRecDepth 100000 in
theorem r6_lifted (os : Os) (started : os.Started) (H : Type) (enc : TypeId × Value → H) :
    ReturnsInHanded {} Tryd.checked os 6 .any (fun w args => (Rows.rulingsApartSpec.pre enc Tryd.prog Tryd.f6 [] false w args ∧ laidMetH Tryd.prog laidL w) ∧ sizedMet enc Tryd.prog Tryd.f6 (OpenSpec.ofChange Rows.rulingsApartSpec) false w args) (Rows.rulingsApartSpec.post enc Tryd.prog Tryd.f6 false true false false) := by
  refine returnsInHanded_of_change_and (C := Tryd.checked) (X := fun w _ => laidMetH Tryd.prog laidL w) (fun _ _ _ hh h => h.of_heap hh) Tryd.own started (by kernel_rfl) Tryd.func6
    (ChangeSpec.witness_shaped (enc := enc) (C := Tryd.checked) (os := os) (X := fun w _ => laidMetH Tryd.prog laidL w) false (World.doorLaid Tryd.prog (400) os) #[.slice none 0 0, .int .i64 0] 8 rfl (World.shaped_of_RefB (by kernel_rfl) (by kernel_rfl)) (by kernel_rfl) (by kernel_rfl) (by kernel_rfl) (door_met os _)) ?_
  intro W base args ds gs before hval hW _ hwt hL _
  have hgl := gl_of_laid Tryd.tab Tryd.pok laidL_ok laidL_plain laid_at hL
  exact law_core (fn := Tryd.f6) Tryd.tab Tryd.gok Tryd.laidOut (tb := 4) rfl (fun ds h => by match ds, h with | [d0, d1], _ => rfl) rfl Tryd.underlying4 (by
    intro t ht
    have : t = 22 ∨ t = 3 := by simpa [Tryd.f6] using ht
    rcases this with rfl | rfl <;> exact ⟨rfl, by kernel_rfl, of_decide_eq_true (by kernel_rfl)⟩) (fun xs ha => by
    match xs, ha with
    | [a0, a1], ⟨⟨n0, y0, o0, e0⟩, ⟨⟨n1, y1, o1, e1⟩, _⟩⟩ =>
      obtain ⟨x0, v0, h0⟩ := arg_facts o0
      obtain ⟨x1, v1, h1⟩ := arg_int o1
      rw [e0, v0, e1, v1]
      exact law_apart x0 x1 h0.2 h0.1 h1) hval hgl hW hwt

theorem rulingsApart_holds : Rows.RulingsApartSaid :=
  OpenClaim.holds_of_wide 6 Tryd.f6 rfl rfl rfl rfl rfl rfl rfl ⟨rfl, rfl, rfl, rfl, rfl⟩ rfl rfl rfl rfl rfl (by kernel_rfl) Tryd.func6 (by kernel_rfl)
    (of_decide_eq_true (by kernel_rfl)) (by unfold Func.isWrapper; first | (rw [if_pos (by decide +kernel)]; kernel_rfl) | (rw [if_neg (by decide +kernel)]; exact ⟨rfl, rfl⟩))
    (fun os started H enc _ => r6_lifted os started H enc)
theorem rulingsApart_card : Rows.RulingsApartCardSaid :=
  Claim7.holds_tied_plain_at .later [] [.data, .data, .data, .data, .data, .data, .data, .data, .data, .data, .data] true (true, "2995bf8852787ade057219681cbc1b00e1baf72ff4e3dc25f6fa840bd7f2235f") false rulingsApart_holds (fun _ h => by cases h) (by kernel_rfl) (fun _ h => by cases h) rulingsApart_row_tie rfl ⟨rfl, rfl⟩ (by kernel_rfl) rfl
    (fun f fn hf hfn => by
      obtain rfl : f = 6 := Option.some.inj ((show Tryd.prog.funcNamed "stopwatch/stopwatchlaw20.RulingsApart" = some 6 by kernel_rfl).symm.trans hf) |>.symm
      obtain rfl : fn = Tryd.f6 := (Option.some.inj (Tryd.func6.symm.trans hfn)).symm
      exact ⟨by kernel_rfl, fun j t ht => by
        have hm : t ∈ [22, 3] := by have := Array.mem_of_getElem? ht; simpa [Tryd.f6] using this
        have hall : ([22, 3].all fun u => !Tryd.prog.wantsStandIn u) = true := by kernel_rfl
        exact (show Tryd.prog.wantsStandIn t = false by simpa using List.all_eq_true.1 hall t hm)⟩)
    (by kernel_rfl)
end Go.Proofs.YtjjaabidbeoomaaDoor
