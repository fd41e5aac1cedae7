/-
  What the rows read: numbers, spans, lists of spans.
-/
import Derived.Test.YtphbappgmoojeaaKHc
import Derived.Test.YtphbappgmoojeaaK4
set_option linter.unusedSectionVars false
set_option linter.unusedSimpArgs false
set_option linter.unusedVariables false
namespace Go.Proofs.Ytphbappgmoojeaa
open Go.Xe Go.RowKit

theorem Try.own : ownKnob Try.prog.godebug = none := by kernel_rfl
theorem Try.laidOut : laidOutB Try.prog = true := by kernel_rfl
def Try.L : List TypeId := [3, 33, 37, 22]
theorem Try.gok : gOk Try.τ Try.L = true := by decide

theorem ok_int {n : Nat} {ds : List D} (h : OkD Try.τ n 3 ds) : ∃ x, ds = [.v (.int .i64 x)] ∧ isZ x := by
  cases n with
  | zero => exact h.elim
  | succ n =>
    simp only [OkD, Try.τ3] at h
    exact h
theorem ok_span {n : Nat} {ds : List D} (h : OkD Try.τ n 37 ds) : ∃ s : Sp, ds = [.v (.int .i64 s.1), .v (.int .i64 s.2)] := by
  cases n with
  | zero => exact h.elim
  | succ n =>
    simp only [OkD, Try.τ37] at h
    obtain ⟨l, rfl, hl, hp⟩ := h
    match l, hl, hp with
    | [a, b], _, hp =>
      have ha := hp 0 a _ rfl rfl
      have hb := hp 1 b _ rfl rfl
      obtain ⟨k, rfl, _⟩ := ok_int ha
      obtain ⟨x, rfl, _⟩ := ok_int hb
      exact ⟨(k, x), rfl⟩
theorem arg_int {n : Nat} {ds : List D} (h : OkD Try.τ n 3 ds) : ∃ x, argOf Try.τ 3 ds = .v (.int .i64 x) ∧ isZ x := by
  obtain ⟨x, rfl, hx⟩ := ok_int h
  exact ⟨x, rfl, hx⟩
theorem arg_uint {n : Nat} {ds : List D} (h : OkD Try.τ n 33 ds) : ∃ x : Nat, argOf Try.τ 33 ds = .v (.int .u64 x) ∧ x < 18446744073709551616 := by
  cases n with
  | zero => exact h.elim
  | succ n =>
    simp only [OkD, Try.τ33] at h
    obtain ⟨x, rfl, h1, h2⟩ := h
    have h1 : (0 : Int) ≤ x := h1
    have h2 : x ≤ 18446744073709551615 := h2
    obtain ⟨k, rfl⟩ := Int.eq_ofNat_of_zero_le h1
    exact ⟨k, rfl, by omega⟩
theorem arg_span {n : Nat} {ds : List D} (h : OkD Try.τ n 37 ds) : ∃ s : Sp, argOf Try.τ 37 ds = spD s ∧ True := by
  obtain ⟨s, rfl⟩ := ok_span h
  exact ⟨s, rfl, trivial⟩
theorem arg_spans {n : Nat} {ds : List D} (h : OkD Try.τ n 22 ds) : ∃ l : List Sp, argOf Try.τ 22 ds = slS l ∧ True := by
  cases n with
  | zero => exact h.elim
  | succ n =>
    simp only [OkD, Try.τ22] at h
    obtain ⟨m, rfl, h1, _⟩ := h
    have key : ∀ m : List (List D), (∀ x ∈ m, OkD Try.τ n 37 x) → ∃ l : List Sp, m.flatten = spC l ∧ m.length = l.length := by
      intro m
      induction m with
      | nil => intro _; exact ⟨[], rfl, rfl⟩
      | cons x m ih =>
        intro h
        obtain ⟨s, hs⟩ := ok_span (h x (by simp))
        obtain ⟨l, h2, h3⟩ := ih fun y hy => h y (by simp [hy])
        exact ⟨s :: l, by rw [List.flatten_cons, hs, h2]; rfl, by simp [h3]⟩
    obtain ⟨l, h2, h3⟩ := key m h1
    exact ⟨l, by rw [h2, h3]; rfl, trivial⟩
end Go.Proofs.Ytphbappgmoojeaa
