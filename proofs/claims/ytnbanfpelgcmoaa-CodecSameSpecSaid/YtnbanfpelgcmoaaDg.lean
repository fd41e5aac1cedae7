import Derived.Test.YtnbanfpelgcmoaaDf
set_option linter.unusedSimpArgs false
set_option linter.unusedVariables false
namespace Go.Proofs.Ytnbanfpelgcmoaa
open Go.Xe Go.RowKit
attribute [local simp] byteD_eq

def vz : V := .mk 0 0 ⟨#[]⟩ []
def rMany (p : List UInt8 → V × List UInt8 × Bool) : Nat → List UInt8 → List V × List UInt8 × Bool
  | 0, r => ([], r, false)
  | n + 1, r => if (p r).2.2 = true then ([(p r).1], (p r).2.1, true) else ((p r).1 :: (rMany p n (p r).2.1).1, (rMany p n (p r).2.1).2.1, (rMany p n (p r).2.1).2.2)
/-- A value as the reference reads it, whatever comes. -/
def rOne (b : Nat) (p : List UInt8 → V × List UInt8 × Bool) : List UInt8 → V × List UInt8 × Bool
  | [] => (vz, [], true)
  | c :: r => if c.toNat = 1 then (.mk 1 (zag (rNum 0 0 r).1) ⟨#[]⟩ [], (rNum 0 0 r).2.1, (rNum 0 0 r).2.2)
      else if c.toNat = 2 then (if (rNum 0 0 r).2.2 = true ∨ (rNum 0 0 r).2.1.length < (rNum 0 0 r).1 then (vz, (rNum 0 0 r).2.1, true) else (.mk 2 0 ⟨((rNum 0 0 r).2.1.take (rNum 0 0 r).1).toArray⟩ [], (rNum 0 0 r).2.1.drop (rNum 0 0 r).1, false))
      else if c.toNat = 3 then (if (rNum 0 0 r).2.2 = true ∨ (rNum 0 0 r).2.1.length < (rNum 0 0 r).1 ∨ b = 0 then (vz, (rNum 0 0 r).2.1, true)
        else (.mk 3 0 ⟨#[]⟩ (rMany p (rNum 0 0 r).1 (rNum 0 0 r).2.1).1, (rMany p (rNum 0 0 r).1 (rNum 0 0 r).2.1).2.1, (rMany p (rNum 0 0 r).1 (rNum 0 0 r).2.1).2.2))
      else (vz, r, true)
def rVal : Nat → List UInt8 → V × List UInt8 × Bool
  | 0 => rOne 0 fun r => (vz, r, true)
  | b + 1 => rOne (b + 1) (rVal b)

theorem rNum_u : ∀ (r : List UInt8) (i u : Nat), i ≤ 9 → u < 128 ^ i → isU (rNum i u r).1
  | [], _, _, _, _ => by rw [rNum]; unfold isU; omega
  | c :: r, i, u, hi, hu => by
    rw [rNum]
    split
    · rename_i hc
      obtain ⟨_, hbd⟩ := num_step hi hu hc.2
      split
      · exact hbd
      · have h1 : c.toNat % 128 * 128 ^ i ≤ 127 * 128 ^ i := Nat.mul_le_mul_right _ (by omega)
        exact rNum_u r _ _ (by omega) (by rw [Nat.pow_succ]; omega)
    · unfold isU; simp only; omega

/-! ### what is left is the end of what was there -/
def isEnd (r' r : List UInt8) : Prop := ∃ q, q ++ r' = r
theorem isEnd.refl (r : List UInt8) : isEnd r r := ⟨[], rfl⟩
theorem isEnd.trans {a b c : List UInt8} (h : isEnd a b) (h' : isEnd b c) : isEnd a c := by
  obtain ⟨q, rfl⟩ := h
  obtain ⟨q', rfl⟩ := h'
  exact ⟨q' ++ q, by simp⟩
theorem isEnd.cons {a b : List UInt8} (c : UInt8) (h : isEnd a b) : isEnd a (c :: b) := by
  obtain ⟨q, rfl⟩ := h
  exact ⟨c :: q, rfl⟩
theorem isEnd.drop (n : Nat) (r : List UInt8) : isEnd (r.drop n) r := ⟨r.take n, List.take_append_drop n r⟩
theorem rNum_end : ∀ (r : List UInt8) (i u : Nat), isEnd (rNum i u r).2.1 r
  | [], i, u => by rw [rNum]; exact .refl _
  | c :: r, i, u => by
    rw [rNum]
    split
    · split
      · exact .cons c (.refl _)
      · exact .cons c (rNum_end r _ _)
    · exact .cons c (.refl _)
theorem rMany_end {p : List UInt8 → V × List UInt8 × Bool} (hp : ∀ r, isEnd (p r).2.1 r) : ∀ (n : Nat) (r : List UInt8), isEnd (rMany p n r).2.1 r
  | 0, r => .refl _
  | n + 1, r => by
    rw [rMany]
    split
    · exact hp r
    · exact (rMany_end hp n _).trans (hp r)
theorem rOne_end (b : Nat) {p : List UInt8 → V × List UInt8 × Bool} (hp : ∀ r, isEnd (p r).2.1 r) : ∀ r, isEnd (rOne b p r).2.1 r
  | [] => .refl _
  | c :: r => by
    rw [rOne]
    have h := rNum_end r 0 0
    split
    · exact .cons c h
    split
    · split
      · exact .cons c h
      · exact .cons c ((isEnd.drop _ _).trans h)
    split
    · split
      · exact .cons c h
      · exact .cons c ((rMany_end hp _ _).trans h)
    · exact .cons c (.refl _)
theorem rVal_end : ∀ (b : Nat) (r : List UInt8), isEnd (rVal b r).2.1 r
  | 0, r => rOne_end 0 (fun r => .refl r) r
  | b + 1, r => rOne_end (b + 1) (rVal_end b) r

/-! ### the two readers -/
theorem rNum_p : ∀ (r : List UInt8) (i u : Nat), (∀ x r', pNum i u r = some (x, r') → rNum i u r = (x, r', false)) ∧ (pNum i u r = none → (rNum i u r).2.2 = true)
  | [], i, u => ⟨fun x r' h => (by rw [pNum] at h; cases h), fun _ => rfl⟩
  | c :: r, i, u => by
    rw [pNum, rNum]
    split
    · split
      · exact ⟨fun x r' h => (by cases h; rfl), fun h => by cases h⟩
      · exact rNum_p r _ _
    · exact ⟨fun x r' h => (by cases h), fun _ => rfl⟩
theorem rMany_p {p : List UInt8 → Option (V × List UInt8)} {q : List UInt8 → V × List UInt8 × Bool} (h1 : ∀ r v r', p r = some (v, r') → q r = (v, r', false)) (h2 : ∀ r, p r = none → (q r).2.2 = true) :
    ∀ (n : Nat) (r : List UInt8), (∀ l r', pMany p n r = some (l, r') → rMany q n r = (l, r', false)) ∧ (pMany p n r = none → (rMany q n r).2.2 = true)
  | 0, r => ⟨fun l r' h => (by rw [pMany] at h; cases h; rfl), fun h => by rw [pMany] at h; cases h⟩
  | n + 1, r => by
    rw [pMany, rMany]
    cases hp : p r with
    | none => rw [if_pos (h2 r hp)]; exact ⟨fun l r' h => (by cases h), fun _ => rfl⟩
    | some x =>
      obtain ⟨v, r1⟩ := x
      have hq := h1 r v r1 hp
      rw [hq]
      have ih := rMany_p h1 h2 n r1
      simp only [Bool.false_eq_true, if_false]
      cases hm : pMany p n r1 with
      | none => exact ⟨fun l r' h => (by cases h), fun _ => ih.2 hm⟩
      | some y =>
        obtain ⟨l, r2⟩ := y
        have := ih.1 l r2 hm
        exact ⟨fun l r' h => (by cases h; rw [this]), fun h => by cases h⟩
theorem rVal_p : ∀ (b : Nat) (r : List UInt8), (∀ v r', pVal b r = some (v, r') → rVal b r = (v, r', false)) ∧ (pVal b r = none → (rVal b r).2.2 = true)
  | b, [] => by cases b <;> exact ⟨fun v r' h => (by rw [pVal] at h; cases h), fun _ => rfl⟩
  | b, c :: r => by
    have hn := rNum_p r 0 0
    have hL : (∀ n r', pLen r = some (n, r') → rNum 0 0 r = (n, r', false) ∧ n ≤ r'.length) ∧ (pLen r = none → (rNum 0 0 r).2.2 = true ∨ (rNum 0 0 r).2.1.length < (rNum 0 0 r).1) := by
      rw [pLen]
      cases hp : pNum 0 0 r with
      | none => exact ⟨fun n r' h => (by cases h), fun _ => .inl (hn.2 hp)⟩
      | some x =>
        obtain ⟨u, r1⟩ := x
        have h1 := hn.1 u r1 hp
        simp only
        split
        · rename_i hle; exact ⟨fun n r' h => by cases h; exact ⟨h1, hle⟩, fun h => by cases h⟩
        · rename_i hle; exact ⟨fun n r' h => (by cases h), fun _ => .inr (by rw [h1]; simp only; omega)⟩
    have hr : ∃ q, rVal b = rOne b q ∧ ∀ b', b = b' + 1 → q = rVal b' := by
      cases b with
      | zero => exact ⟨_, rfl, fun b' h => by cases h⟩
      | succ b => exact ⟨_, rfl, fun b' h => by cases h; rfl⟩
    obtain ⟨q, hq, hq'⟩ := hr
    rw [hq, rOne]
    by_cases h1 : c.toNat = 1
    · rw [pVal_1 b r h1, if_pos h1]
      cases hp : pNum 0 0 r with
      | none => exact ⟨fun v r' h => (by cases h), fun _ => hn.2 hp⟩
      | some x =>
        obtain ⟨u, r1⟩ := x
        rw [hn.1 u r1 hp]
        exact ⟨fun v r' h => (by cases h; rfl), fun h => by cases h⟩
    rw [if_neg h1]
    by_cases h2 : c.toNat = 2
    · rw [pVal_2 b r h2, if_pos h2]
      cases hp : pLen r with
      | none => rw [if_pos (hL.2 hp)]; exact ⟨fun v r' h => (by cases h), fun _ => rfl⟩
      | some x =>
        obtain ⟨n, r1⟩ := x
        obtain ⟨h3, h4⟩ := hL.1 n r1 hp
        rw [h3, if_neg (by simp only [Bool.false_eq_true, false_or]; omega)]
        exact ⟨fun v r' h => (by cases h; rfl), fun h => by cases h⟩
    rw [if_neg h2]
    by_cases h3 : c.toNat = 3
    · rw [if_pos h3]
      cases b with
      | zero =>
        rw [pVal_30 r h3, if_pos (.inr (.inr rfl))]
        exact ⟨fun v r' h => (by cases h), fun _ => rfl⟩
      | succ b =>
        rw [pVal_3 b r h3]
        have hqq := hq' b rfl
        subst hqq
        cases hp : pLen r with
        | none =>
          rw [if_pos (by rcases hL.2 hp with h | h; exact .inl h; exact .inr (.inl h))]
          exact ⟨fun v r' h => (by cases h), fun _ => rfl⟩
        | some x =>
          obtain ⟨n, r1⟩ := x
          obtain ⟨h4, h5⟩ := hL.1 n r1 hp
          have hm := rMany_p (fun r v r' h => (rVal_p b r).1 v r' h) (fun r h => (rVal_p b r).2 h) n r1
          rw [h4, if_neg (by simp only [Bool.false_eq_true, false_or]; omega)]
          simp only [Option.bind_some]
          cases hy : pMany (pVal b) n r1 with
          | none => exact ⟨fun v r' h => (by cases h), fun _ => hm.2 hy⟩
          | some y =>
            obtain ⟨l, r2⟩ := y
            rw [hm.1 l r2 hy]
            exact ⟨fun v r' h => (by cases h; rfl), fun h => by cases h⟩
    · rw [if_neg h3, pVal_x b r h1 h2 h3]
      exact ⟨fun v r' h => (by cases h), fun _ => rfl⟩
end Go.Proofs.Ytnbanfpelgcmoaa
