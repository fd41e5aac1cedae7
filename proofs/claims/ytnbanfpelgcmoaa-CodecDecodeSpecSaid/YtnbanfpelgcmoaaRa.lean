/-
  What the rows read: values of the codec, bytes, numbers. And the laws' rows.
-/
import Derived.Test.YtnbanfpelgcmoaaLb
import Derived.Test.YtnbanfpelgcmoaaEngU
set_option linter.unusedSimpArgs false
set_option linter.unusedVariables false
namespace Go.Proofs.Ytnbanfpelgcmoaa
open Go.Xe Go.RowKit

theorem Try.own : ownKnob Try.prog.godebug = none := by kernel_rfl
theorem Try.laidOut : laidOutB Try.prog = true := by kernel_rfl
def Try.L : List TypeId := [3, 5, 9, 22, 24, 27]
theorem Try.gok : gOk Try.τ Try.L = true := by decide

theorem ok_int {n : Nat} {ds : List D} (h : OkD Try.τ n 3 ds) : ∃ x, ds = [.v (.int .i64 x)] ∧ isI x := by
  cases n with
  | zero => exact h.elim
  | succ n =>
    simp only [OkD, Try.τ3] at h
    exact h
theorem ok_byte {n : Nat} {ds : List D} (h : OkD Try.τ n 5 ds) : ∃ c : UInt8, ds = [byteD c] := by
  cases n with
  | zero => exact h.elim
  | succ n =>
    simp only [OkD, Try.τ5] at h
    obtain ⟨x, rfl, h1, h2⟩ := h
    have h1 : (0 : Int) ≤ x := h1
    have h2 : x ≤ 255 := h2
    refine ⟨UInt8.ofNat x.toNat, ?_⟩
    rw [byteD]
    simp
    omega
theorem ok_str {n : Nat} {ds : List D} (h : OkD Try.τ n 9 ds) : ∃ s : ByteArray, ds = [.v (.string s)] ∧ s.size ≤ 140737488351232 := by
  cases n with
  | zero => exact h.elim
  | succ n =>
    simp only [OkD, Try.τ9] at h
    exact h
theorem ok_bytes {n : Nat} {ds : List D} (h : OkD Try.τ n 27 ds) : ∃ bs : List UInt8, ds = [slB bs] := by
  cases n with
  | zero => exact h.elim
  | succ n =>
    simp only [OkD, Try.τ27] at h
    obtain ⟨l, rfl, h1, _⟩ := h
    have key : ∀ l : List (List D), (∀ x ∈ l, OkD Try.τ n 5 x) → ∃ bs : List UInt8, l.flatten = bys bs ∧ l.length = bs.length := by
      intro l
      induction l with
      | nil => intro _; exact ⟨[], rfl, rfl⟩
      | cons x l ih =>
        intro h
        obtain ⟨c, hc⟩ := ok_byte (h x (by simp))
        obtain ⟨bs, h2, h3⟩ := ih fun y hy => h y (by simp [hy])
        exact ⟨c :: bs, by rw [List.flatten_cons, hc, h2]; rfl, by simp [h3]⟩
    obtain ⟨bs, h2, h3⟩ := key l h1
    exact ⟨bs, by rw [h2, h3]; rfl⟩

theorem ok_val : ∀ (N n : Nat), n ≤ N → ∀ ds, OkD Try.τ n 24 ds → ∃ v : V, ds = v.cells ∧ v.rng = true := by
  intro N
  induction N with
  | zero => intro n hn ds h; have : n = 0 := by omega
            subst this; exact h.elim
  | succ N ih =>
    intro n hn ds h
    cases n with
    | zero => exact h.elim
    | succ n =>
      simp only [OkD, Try.τ24] at h
      obtain ⟨l, rfl, hl, hp⟩ := h
      match l, hl, hp with
      | [a, b, c, d], _, hp =>
        have ha := hp 0 a _ rfl rfl
        have hb := hp 1 b _ rfl rfl
        have hc := hp 2 c _ rfl rfl
        have hd := hp 3 d _ rfl rfl
        obtain ⟨k, rfl, hk⟩ := ok_int ha
        obtain ⟨x, rfl, hx⟩ := ok_int hb
        obtain ⟨s, rfl, hs⟩ := ok_str hc
        cases n with
        | zero => exact hd.elim
        | succ n =>
          simp only [OkD, Try.τ22] at hd
          obtain ⟨m, rfl, h1, _⟩ := hd
          have key : ∀ m : List (List D), (∀ x ∈ m, OkD Try.τ n 24 x) → ∃ vs : List V, m.flatten = V.cellsL vs ∧ m.length = vs.length ∧ V.rngL vs = true := by
            intro m
            induction m with
            | nil => intro _; exact ⟨[], rfl, rfl, rfl⟩
            | cons x m ih2 =>
              intro h
              obtain ⟨v, hv, hr⟩ := ih n (by omega) x (h x (by simp))
              obtain ⟨vs, h2, h3, h4⟩ := ih2 fun y hy => h y (by simp [hy])
              exact ⟨v :: vs, by rw [List.flatten_cons, hv, h2]; rfl, by simp [h3], by rw [V.rngL, hr, h4]; rfl⟩
          obtain ⟨vs, h2, h3, h4⟩ := key m h1
          refine ⟨.mk k x s vs, ?_, ?_⟩
          · rw [h2, h3]; rfl
          · unfold isI at hk hx
            simp only [V.rng, h4, Bool.and_true, Bool.and_eq_true, decide_eq_true_eq]
            exact ⟨⟨hk, by omega⟩, hx⟩

/-- The first argument of a law, as data. -/
theorem arg_int {n : Nat} {ds : List D} (h : OkD Try.τ n 3 ds) : ∃ x, argOf Try.τ 3 ds = .v (.int .i64 x) ∧ isI x := by
  obtain ⟨x, rfl, hx⟩ := ok_int h
  exact ⟨x, rfl, hx⟩
theorem arg_bytes {n : Nat} {ds : List D} (h : OkD Try.τ n 27 ds) : ∃ bs, argOf Try.τ 27 ds = slB bs := by
  obtain ⟨bs, rfl⟩ := ok_bytes h
  exact ⟨bs, rfl⟩
theorem arg_val {n : Nat} {ds : List D} (h : OkD Try.τ n 24 ds) : ∃ v : V, argOf Try.τ 24 ds = v.d ∧ v.rng = true := by
  obtain ⟨v, rfl, hr⟩ := ok_val n n (Nat.le_refl _) ds h
  exact ⟨v, rfl, hr⟩

def zeroV : Value := .agg #[.int .i64 0, .int .i64 0, .string ⟨#[]⟩, .slice none 0 0]

set_option maxRecDepth 100000 in
theorem r3_lifted (os : Os) (started : os.Started) (H : Type) (enc : TypeId × Value → H) :
    ReturnsInHanded {} Try.checked os 3 .any (Rows.codecEncodeSpecSpec.pre6 enc Try.prog Try.f3 Rows.codecEncodeSpecRow.domain false) (Rows.codecEncodeSpecSpec.post enc Try.prog Try.f3 false true false false) := by
  refine returnsInHanded_of_change_sized (C := Try.checked) Try.own started (by kernel_rfl) Try.func3
    (ChangeSpec.witness6 (enc := enc) (C := Try.checked) false ⟨#[], #[zeroV], []⟩ 8 (by kernel_rfl) (by kernel_rfl) (by kernel_rfl) (by kernel_rfl)) ?_
  intro W base args ds gs before hval hW _ hwt _
  exact law_core (fn := Try.f3) Try.tab Try.gok Try.laidOut (tb := 4) rfl (fun ds h => by match ds, h with | [d], _ => rfl) rfl Try.underlying4 (by
    intro t ht
    have : t = 24 := by simpa [Try.f3] using ht
    subst this
    exact ⟨rfl, by kernel_rfl, of_decide_eq_true (by kernel_rfl)⟩) (fun xs ha => by
    match xs, ha with
    | [a], ⟨⟨n, x, h, e⟩, _⟩ =>
      obtain ⟨v, hv, hr⟩ := arg_val h
      rw [e, hv]
      exact f3_ok v hr) hval hW hwt

theorem codecEncodeSpec_holds : Rows.CodecEncodeSpecSaid :=
  OpenClaim.holds_of_wide 3 Try.f3 rfl rfl rfl rfl rfl rfl rfl ⟨rfl, rfl, rfl, rfl, rfl⟩ rfl rfl rfl rfl rfl (by kernel_rfl) Try.func3 (by kernel_rfl)
    (of_decide_eq_true (by kernel_rfl)) (by unfold Func.isWrapper; first | (rw [if_pos (by decide +kernel)]; kernel_rfl) | (rw [if_neg (by decide +kernel)]; exact ⟨rfl, rfl⟩))
    (fun os started H enc _ => r3_lifted os started H enc)
end Go.Proofs.Ytnbanfpelgcmoaa
