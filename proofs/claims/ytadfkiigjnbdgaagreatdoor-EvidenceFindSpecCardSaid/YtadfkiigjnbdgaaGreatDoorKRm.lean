/-
  Evidence: what the rows read, with the digests told.
-/
import Derived.Test.YtadfkiigjnbdgaaGreatDoorKRl
import Derived.Test.YtadfkiigjnbdgaaGreatDoorKVg
set_option linter.unusedSectionVars false
set_option linter.unusedSimpArgs false
set_option linter.unusedVariables false
namespace Go.Proofs.YtadfkiigjnbdgaaGreatDoor
open Go.Xe Go.RowKit

theorem ok_digestsG {n : Nat} {ds : List D} (h : OkD Tryz.τ n 54 ds) : ∃ (c : List D) (k : Nat), ds = [.sl 32 c k false] ∧ dgC c k := by
  cases n with
  | zero => exact h.elim
  | succ n =>
    simp only [OkD, Tryz.τ54] at h
    obtain ⟨l, rfl, hl, _⟩ := h
    exact ⟨l.flatten, l.length, rfl, n, l, rfl, rfl, hl⟩
theorem ok_sigG {n : Nat} {ds : List D} (h : OkD Tryz.τ n 56 ds) : ∃ (k : Int) (n1 n2 n3 : Nat) (c1 c2 c3 : List D), isI k ∧ ds = [.v (.int .i64 k), .sl 32 c1 n1 false, .sl 32 c2 n2 false, .sl 32 c3 n3 false] ∧ dgC c1 n1 ∧ dgC c2 n2 ∧ dgC c3 n3 := by
  cases n with
  | zero => exact h.elim
  | succ n =>
    simp only [OkD, Tryz.τ56] at h
    obtain ⟨l, rfl, hl, h⟩ := h
    match l, hl, h with
    | [a, b, c, d], _, h =>
      obtain ⟨x, ha, hx⟩ := ok_int (h 0 a (0, 3) rfl rfl)
      obtain ⟨c1, n1, hb, d1⟩ := ok_digestsG (h 1 b (1, 54) rfl rfl)
      obtain ⟨c2, n2, hc, d2⟩ := ok_digestsG (h 2 c (2, 54) rfl rfl)
      obtain ⟨c3, n3, hd, d3⟩ := ok_digestsG (h 3 d (3, 54) rfl rfl)
      subst ha hb hc hd
      exact ⟨x, n1, n2, n3, c1, c2, c3, hx, rfl, d1, d2, d3⟩
theorem ok_signedG {n : Nat} {ds : List D} (h : OkD Tryz.τ n 58 ds) : ∃ p : Sg, ds = fcs p.1 0 57 ++ p.2 ∧ sgOk p ∧ sgG p := by
  cases n with
  | zero => exact h.elim
  | succ n =>
    simp only [OkD, Tryz.τ58] at h
    obtain ⟨l, rfl, hl, h⟩ := h
    match l, hl, h with
    | [a, b], _, h =>
      obtain ⟨f, rfl, hf⟩ := fact_of (h 0 a (0, 53) rfl rfl)
      obtain ⟨k, n1, n2, n3, c1, c2, c3, hk, rfl, d1, d2, d3⟩ := ok_sigG (h 1 b (57, 56) rfl rfl)
      exact ⟨(f, _), by simp, ⟨hf, rfl, by simp [oneD]⟩, k, n1, n2, n3, c1, c2, c3, hk, rfl, d1, d2, d3⟩
theorem ok_ledgerG {n : Nat} {ds : List D} (h : OkD Tryz.τ n 24 ds) : ∃ l : List Sg, ds = [sgD l false] ∧ (∀ p ∈ l, sgOk p ∧ sgG p) ∧ l.length ≤ 1000000000000 := by
  cases n with
  | zero => exact h.elim
  | succ n =>
    simp only [OkD, Tryz.τ24] at h
    obtain ⟨l, rfl, hl, h⟩ := h
    match l, hl, h with
    | [a], _, h =>
      have h := h 0 a (0, 22) rfl rfl
      cases n with
      | zero => exact h.elim
      | succ n =>
        simp only [OkD, Tryz.τ22] at h
        obtain ⟨m, rfl, h1, h2⟩ := h
        have key : ∀ m : List (List D), (∀ x ∈ m, OkD Tryz.τ n 58 x) → ∃ l : List Sg, m.flatten = sgC l ∧ l.length = m.length ∧ ∀ p ∈ l, sgOk p ∧ sgG p := by
          intro m
          induction m with
          | nil => intro _; exact ⟨[], rfl, rfl, fun _ h => by cases h⟩
          | cons x m ih =>
            intro h
            obtain ⟨p, hp, hpo⟩ := ok_signedG (h x (by simp))
            obtain ⟨l, h3, h4, h5⟩ := ih fun y hy => h y (by simp [hy])
            refine ⟨p :: l, ?_, by simp [h4], fun q hq => ?_⟩
            · rw [List.flatten_cons, hp, h3]; rfl
            · rcases List.mem_cons.1 hq with rfl | hq
              · exact hpo
              · exact h5 q hq
        obtain ⟨l, h3, h4, h5⟩ := key m h1
        refine ⟨l, ?_, h5, ?_⟩
        · rw [h3, ← h4]
          rfl
        · have e : tby Tryz.τ 58 = 536 := rfl
          rw [e] at h2
          omega
theorem arg_ledgerG {n : Nat} {ds : List D} (h : OkD Tryz.τ n 24 ds) : ∃ l, argOf Tryz.τ 24 ds = lgD l false ∧ ((∀ p ∈ l, sgOk p) ∧ (∀ p ∈ l, sgG p) ∧ l.length ≤ 1000000000000) := by
  obtain ⟨l, rfl, h1, h2⟩ := ok_ledgerG h
  exact ⟨l, rfl, fun p hp => (h1 p hp).1, fun p hp => (h1 p hp).2, h2⟩
end Go.Proofs.YtadfkiigjnbdgaaGreatDoor
