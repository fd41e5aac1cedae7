/-
  The order of facts is one.
-/
import Derived.Test.YtjjaabidbeoomaaGreatDoorKH
import Derived.Test.YtjjaabidbeoomaaGreatDoorKFs
set_option linter.unusedSectionVars false
set_option linter.unusedSimpArgs false
set_option linter.unusedVariables false
namespace Go.Proofs.YtjjaabidbeoomaaGreatDoor
open Go.Xe Go.RowKit

/-- A comparison: of three values, antisymmetric, transitive; equals compare alike. -/
structure Cmp {α : Type} (c : α → α → Int) : Prop where
  val : ∀ a b, c a b = -1 ∨ c a b = 0 ∨ c a b = 1
  anti : ∀ a b, c b a = - c a b
  trans : ∀ a b d, c a b ≤ 0 → c b d ≤ 0 → c a d ≤ 0
  same : ∀ a b d, c a b = 0 → c a d = c b d
theorem Cmp.lex {α : Type} {c e : α → α → Int} (h : Cmp c) (k : Cmp e) : Cmp fun a b => if c a b = 0 then e a b else c a b where
  val a b := by
    split
    · exact k.val a b
    · exact h.val a b
  anti a b := by
    have := h.anti a b
    by_cases h0 : c a b = 0
    · have h1 : c b a = 0 := by omega
      rw [if_pos h0, if_pos h1]
      exact k.anti a b
    · have h1 : ¬ c b a = 0 := by omega
      rw [if_neg h0, if_neg h1]
      exact this
  trans a b d hab hbd := by
    by_cases h0 : c a b = 0
    · rw [if_pos h0] at hab
      rw [h.same a b d h0]
      by_cases h1 : c b d = 0
      · rw [if_pos h1] at hbd
        rw [if_pos h1]
        exact k.trans a b d hab hbd
      · rw [if_neg h1] at hbd
        rw [if_neg h1]
        exact hbd
    · rw [if_neg h0] at hab
      by_cases h1 : c b d = 0
      · have h2 : c d b = 0 := by have := h.anti b d; omega
        have h3 := h.same d b a h2
        have h4 := h.anti a d
        have h5 := h.anti a b
        have h6 : c a d = c a b := by omega
        rw [h6, if_neg h0]
        exact hab
      · rw [if_neg h1] at hbd
        have h2 := h.trans a b d hab hbd
        have h3 : ¬ c a d = 0 := fun h3 => by
          have h4 : c d a = 0 := by have := h.anti a d; omega
          have h5 := h.same d a b h4
          have h6 := h.anti b d
          have h7 := h.val a b
          have h8 := h.val b d
          omega
        rw [if_neg h3]
        exact h2
  same a b d hab := by
    by_cases h0 : c a b = 0
    · rw [if_pos h0] at hab
      rw [h.same a b d h0, k.same a b d hab]
    · rw [if_neg h0] at hab
      exact absurd hab h0
theorem Cmp.on {α β : Type} {c : β → β → Int} (h : Cmp c) (p : α → β) : Cmp fun a b => c (p a) (p b) :=
  ⟨fun _ _ => h.val _ _, fun _ _ => h.anti _ _, fun _ _ _ => h.trans _ _ _, fun _ _ _ => h.same _ _ _⟩
theorem cmp_int : Cmp cmpI where
  val a b := by unfold cmpI; split <;> (try split) <;> simp
  anti a b := by unfold cmpI; split <;> split <;> (try split) <;> omega
  trans a b d := by unfold cmpI; intro h1 h2; split at h1 <;> split at h2 <;> (try split at h1) <;> (try split at h2) <;> split <;> (try split) <;> omega
  same a b d := by unfold cmpI; intro h1; split at h1 <;> (try split at h1) <;> first | omega | (rw [show a = b by omega]; done)
theorem cb_anti : ∀ a b : List UInt8, Lib.compareBytes b a = - Lib.compareBytes a b
  | [], [] => rfl
  | [], _ :: _ => rfl
  | _ :: _, [] => rfl
  | x :: a, y :: b => by
    rw [Lib.compareBytes, Lib.compareBytes, cb_anti a b]
    by_cases h1 : x < y
    · have h2 : ¬ y < x := fun h2 => absurd (UInt8.lt_trans h1 h2) (UInt8.lt_irrefl _)
      simp [h1, h2]
    · by_cases h2 : y < x <;> simp [h1, h2]
theorem cb_trans : ∀ a b d : List UInt8, Lib.compareBytes a b ≤ 0 → Lib.compareBytes b d ≤ 0 → Lib.compareBytes a d ≤ 0
  | [], _, [], _, _ => by simp [Lib.compareBytes]
  | [], _, _ :: _, _, _ => by simp [Lib.compareBytes]
  | _ :: _, [], _, h, _ => by simp [Lib.compareBytes] at h
  | _ :: _, _ :: _, [], _, h => by simp [Lib.compareBytes] at h
  | x :: a, y :: b, z :: d, h1, h2 => by
    rw [Lib.compareBytes] at h1 h2 ⊢
    have ih := cb_trans a b d
    have tr := fun (p : x < y) (q : y < z) => UInt8.lt_trans p q
    by_cases xy : x < y
    · by_cases yz : y < z
      · simp [tr xy yz]
      · by_cases zy : z < y
        · simp [yz, zy] at h2
        · have e : y = z := UInt8.le_antisymm (UInt8.not_lt.1 zy) (UInt8.not_lt.1 yz)
          subst e
          simp [xy]
    · by_cases yx : y < x
      · simp [xy, yx] at h1
      · have e : x = y := UInt8.le_antisymm (UInt8.not_lt.1 yx) (UInt8.not_lt.1 xy)
        subst e
        simp only [xy, if_false] at h1
        by_cases yz : x < z
        · simp [yz]
        · by_cases zy : z < x
          · simp [yz, zy] at h2
          · simp only [yz, zy, if_false] at h2 ⊢
            exact ih h1 h2
theorem cmp_bytes : Cmp Lib.compareBytes := ⟨cb_val, cb_anti, cb_trans, fun a b d h => by rw [(cb_eq a b).1 h]⟩
theorem cmp_fact : Cmp cmpF := by
  have h := ((cmp_int.on fun f : Nat → Int => f 2).lex (((cmp_int.on fun f : Nat → Int => f 0).lex ((cmp_int.on fun f : Nat → Int => f 1).lex (cmp_bytes.on fun f : Nat → Int => (encR f).1)))))
  have e : cmpF = fun f g => if cmpI (f 2) (g 2) = 0 then (if cmpI (f 0) (g 0) = 0 then (if cmpI (f 1) (g 1) = 0 then Lib.compareBytes (encR f).1 (encR g).1 else cmpI (f 1) (g 1)) else cmpI (f 0) (g 0)) else cmpI (f 2) (g 2) := by
    funext f g
    unfold cmpF headC orL
    by_cases h2 : cmpI (f 2) (g 2) = 0
    · simp only [h2, if_true]
      by_cases h0 : cmpI (f 0) (g 0) = 0
      · simp only [orL, h0, if_true]
        by_cases h1 : cmpI (f 1) (g 1) = 0
        · simp [h1]
        · simp [h1]
      · simp [orL, h0]
    · simp [h2]
  rw [e]
  exact h
/-- Valid facts: equal encodings, equal facts. -/
theorem enc_inj {f g : Nat → Int} (hf : fOk f) (hg : fOk g) (vf : (numF f).2 = true) (vg : (numF g).2 = true) (h : (encR f).1 = (encR g).1) : f = g := by
  rw [encR, encR, if_pos vf, if_pos vg] at h
  simp only at h
  have hf1 := (numF_in hf)
  have hg1 := (numF_in hg)
  have a := intsV_facts hf1.1 (by omega)
  have b := intsV_facts hg1.1 (by omega)
  unfold encF at h
  have ra := V.read (intsV (numF f).1) 16 [] (V.chk_ok a.1) a.2.1 (by omega) (by omega)
  have rb := V.read (intsV (numF g).1) 16 [] (V.chk_ok b.1) b.2.1 (by omega) (by omega)
  rw [h, rb] at ra
  simp only [Option.some.injEq, Prod.mk.injEq, and_true] at ra
  have hn : (numF g).1 = (numF f).1 := by
    have := congrArg (fun v => (V.items v).map V.num) ra
    simpa [intsV, V.items, intV, V.num, Function.comp_def] using this
  rw [← cand_num vf hf, ← cand_num vg hg, hn]
theorem cmp_zero {f g : Nat → Int} (hf : fOk f) (hg : fOk g) (vf : (numF f).2 = true) (vg : (numF g).2 = true) : cmpF f g = 0 ↔ f = g := by
  constructor
  · intro h
    unfold cmpF at h
    split at h
    · exact enc_inj hf hg vf vg ((cb_eq _ _).1 h)
    · rename_i h'; exact absurd h h'
  · rintro rfl
    have := cmp_fact.anti f f
    omega
end Go.Proofs.YtjjaabidbeoomaaGreatDoor
