/-
  Lists of facts: their cells; each once.
-/
import Derived.Test.YtjjaabidbeoomaaGreatDoorKPd
set_option linter.unusedSectionVars false
set_option linter.unusedSimpArgs false
set_option linter.unusedVariables false
namespace Go.Proofs.YtjjaabidbeoomaaGreatDoor
open Go.Xe Go.RowKit

abbrev F := Nat → Int
/-- The cells of a list of facts. -/
def fsC (l : List F) : List D := l.flatMap fun f => fcs f 0 57
@[simp] theorem fsC_nil : fsC [] = [] := rfl
theorem fsC_cons (f : F) (l : List F) : fsC (f :: l) = fcs f 0 57 ++ fsC l := by simp [fsC]
theorem fsC_append (a b : List F) : fsC (a ++ b) = fsC a ++ fsC b := by simp [fsC]
theorem fcs_len57 (f : F) : (fcs f 0 57).length = 57 := by simp [fcs]
theorem fsC_len : ∀ l : List F, (fsC l).length = l.length * 57
  | [] => rfl
  | f :: l => by rw [fsC_cons, List.length_append, fcs_len57, fsC_len l, List.length_cons]; omega
theorem fsC_drop : ∀ (l : List F) (i : Nat), (fsC l).drop (i * 57) = fsC (l.drop i)
  | l, 0 => by simp
  | [], i + 1 => by simp
  | f :: l, i + 1 => by
    rw [fsC_cons, List.drop_append, List.drop_of_length_le (by rw [fcs_len57]; omega), fcs_len57, List.nil_append, show (i + 1) * 57 - 57 = i * 57 by omega, fsC_drop l i, List.drop_succ_cons]
theorem fsC_take : ∀ (l : List F) (i : Nat), (fsC l).take (i * 57) = fsC (l.take i)
  | l, 0 => by simp
  | [], i + 1 => by simp
  | f :: l, i + 1 => by
    rw [fsC_cons, List.take_append, List.take_of_length_le (by rw [fcs_len57]; omega), fcs_len57, show (i + 1) * 57 - 57 = i * 57 by omega, fsC_take l i, List.take_succ_cons, fsC_cons]
def fat (l : List F) (i : Nat) : F := l.getD i f0
theorem getD_at {l : List F} {i : Nat} (h : i < l.length) : l.getD i f0 = l[i] := by simp [List.getD_eq_getElem?_getD, h]
theorem fat_in {l : List F} {i : Nat} (h : i < l.length) : fat l i ∈ l := by
  rw [fat, getD_at h]; exact List.getElem_mem h
theorem drop_fat {l : List F} {i : Nat} (h : i < l.length) : l.drop i = fat l i :: l.drop (i + 1) := by
  rw [fat, getD_at h]; exact List.drop_eq_getElem_cons h
theorem take_fat {l : List F} {i : Nat} (h : i < l.length) : l.take (i + 1) = l.take i ++ [fat l i] := by
  rw [fat, getD_at h, List.take_add_one, List.getElem?_eq_getElem h]; rfl
theorem fsC_at {l : List F} {i : Nat} (h : i < l.length) : ((fsC l).drop (i * 57)).take 57 = fcs (fat l i) 0 57 := by
  rw [fsC_drop, drop_fat h, fsC_cons, List.take_append, fcs_len57, Nat.sub_self, List.take_zero, List.append_nil, List.take_of_length_le (by rw [fcs_len57]; omega)]
theorem fsC_atA {l : List F} {i : Nat} (h : i < l.length) : (((fsC l).map AV.d).drop (i * 57)).take 57 = (fcs (fat l i) 0 57).map .d := by
  rw [← List.map_drop, ← List.map_take, fsC_at h]
theorem setL_eq : ∀ (xs cs : List AV) (off : Nat), off + xs.length ≤ cs.length → setL cs off xs = cs.take off ++ xs ++ cs.drop (off + xs.length)
  | [], cs, off, _ => by simp [setL]
  | x :: xs, cs, off, h => by
    simp only [List.length_cons] at h
    rw [setL, setL_eq xs (cs.set off x) (off + 1) (by simp; omega)]
    have ho : off < cs.length := by omega
    rw [List.set_eq_take_append_cons_drop, if_pos ho]
    have hl : (cs.take off).length = off := by simp; omega
    have e1 : (cs.take off ++ x :: cs.drop (off + 1)).take (off + 1) = cs.take off ++ [x] := by
      rw [List.take_append, hl, List.take_of_length_le (by omega), show off + 1 - off = 1 by omega]; rfl
    have e2 : (cs.take off ++ x :: cs.drop (off + 1)).drop (off + 1 + xs.length) = cs.drop (off + (xs.length + 1)) := by
      rw [List.drop_append, hl, List.drop_of_length_le (by omega), List.nil_append, show off + 1 + xs.length - off = xs.length + 1 by omega, List.drop_succ_cons, List.drop_drop]
      congr 1; omega
    rw [e1, e2]
    simp
theorem fsC_set {l : List F} {i : Nat} (h : i < l.length) (f : F) : setL ((fsC l).map .d) (i * 57) ((fcs f 0 57).map .d) = (fsC (l.set i f)).map .d := by
  rw [setL_eq _ _ _ (by rw [List.length_map, List.length_map, fcs_len57, fsC_len]; have := Nat.mul_le_mul_right 57 h; omega)]
  rw [List.length_map, fcs_len57, ← List.map_take, ← List.map_drop, ← List.map_append, ← List.map_append, show i * 57 + 57 = (i + 1) * 57 by omega, fsC_take, fsC_drop, List.set_eq_take_append_cons_drop, if_pos h, fsC_append, fsC_cons, List.append_assoc]
theorem take_set {l : List F} {i : Nat} (h : i < l.length) (f : F) : (l.set i f).take (i + 1) = l.take i ++ [f] := by
  rw [List.set_eq_take_append_cons_drop, if_pos h, List.take_append, List.length_take, Nat.min_eq_left (by omega), List.take_of_length_le (by simp; omega), show i + 1 - i = 1 by omega]
  rfl

/-! ### each once: what is not as the one ahead of it -/
def cN (l : List F) : Nat → List F
  | 0 => []
  | m + 1 => cN l m ++ if m = 0 ∨ cmpF (fat l m) (fat l (m - 1)) ≠ 0 then [fat l m] else []
def cmpt (l : List F) : List F := cN l l.length
theorem cN_len (l : List F) : ∀ m, (cN l m).length ≤ m
  | 0 => by simp [cN]
  | m + 1 => by
    have := cN_len l m
    rw [cN, List.length_append]
    split <;> simp <;> omega
theorem cN_all {l : List F} : ∀ m, m ≤ l.length → (∀ j, 1 ≤ j → j < m → cmpF (fat l j) (fat l (j - 1)) ≠ 0) → cN l m = l.take m
  | 0, _, _ => by simp [cN]
  | m + 1, h, hj => by
    rw [cN, cN_all m (by omega) (fun j h1 h2 => hj j h1 (by omega)), take_fat (by omega), if_pos]
    rcases Nat.eq_zero_or_pos m with h0 | h0
    · exact .inl h0
    · exact .inr (hj m h0 (by omega))
theorem cN_in {l : List F} : ∀ m, m ≤ l.length → ∀ x ∈ cN l m, x ∈ l
  | 0, _, x, h => by simp [cN] at h
  | m + 1, hm, x, h => by
    rw [cN, List.mem_append] at h
    rcases h with h | h
    · exact cN_in m (by omega) x h
    · split at h
      · rw [List.mem_singleton] at h; subst h; exact fat_in (by omega)
      · cases h
/-- Valid facts. -/
def vOk (f : F) : Prop := fOk f ∧ (numF f).2 = true
theorem cN_ok {l : List F} (hv : ∀ f ∈ l, vOk f) (hs : l.Pairwise fun a b => cmpF a b ≤ 0) : ∀ m, m ≤ l.length → (cN l m).Pairwise (fun a b => cmpF a b < 0) ∧ (0 < m → fat l (m - 1) ∈ cN l m ∧ ∀ x ∈ cN l m, x = fat l (m - 1) ∨ cmpF x (fat l (m - 1)) < 0) ∧ ∀ j, j < m → fat l j ∈ cN l m
  | 0, _ => ⟨List.Pairwise.nil, fun h => absurd h (Nat.lt_irrefl _), fun j h => absurd h (Nat.not_lt_zero _)⟩
  | m + 1, h => by
    obtain ⟨h1, h2, h3⟩ := cN_ok hv hs m (by omega)
    rw [cN]
    rcases Nat.eq_zero_or_pos m with h0 | h0
    · subst h0
      rw [if_pos (.inl rfl)]
      refine ⟨by simp [cN], fun _ => ⟨by simp, fun x hx => ?_⟩, fun j hj => ?_⟩
      · simp [cN] at hx; exact .inl (by simpa using hx)
      · have : j = 0 := by omega
        subst this; simp
    obtain ⟨h4, h5⟩ := h2 h0
    have hle : cmpF (fat l (m - 1)) (fat l m) ≤ 0 := by
      have a : m - 1 < l.length := by omega
      have b : m < l.length := by omega
      unfold fat
      rw [getD_at a, getD_at b]
      exact List.pairwise_iff_getElem.1 hs (m - 1) m a b (by omega)
    have va := hv _ (fat_in (show m < l.length by omega))
    have vb := hv _ (fat_in (show m - 1 < l.length by omega))
    by_cases hc : cmpF (fat l m) (fat l (m - 1)) = 0
    · have he : fat l m = fat l (m - 1) := (cmp_zero va.1 vb.1 va.2 vb.2).1 hc
      rw [if_neg (by rintro (h6 | h6); omega; exact h6 hc), List.append_nil]
      refine ⟨h1, fun _ => ?_, fun j hj => ?_⟩
      · rw [show m + 1 - 1 = m by omega, he]; exact ⟨h4, h5⟩
      · by_cases hjm : j = m
        · subst hjm; rw [he]; exact h4
        · exact h3 j (by omega)
    · rw [if_pos (.inr hc)]
      have hlt : cmpF (fat l (m - 1)) (fat l m) < 0 := by
        have := cmp_fact.anti (fat l m) (fat l (m - 1)); omega
      have hall : ∀ x ∈ cN l m, cmpF x (fat l m) < 0 := fun x hx => by
        rcases h5 x hx with e | e
        · rw [e]; exact hlt
        · have t := cmp_fact.trans x (fat l (m - 1)) (fat l m) (by omega) hle
          have n : cmpF x (fat l m) ≠ 0 := fun n => by
            have s := cmp_fact.same x (fat l m) (fat l (m - 1)) n
            have t2 := cmp_fact.anti (fat l m) (fat l (m - 1))
            omega
          omega
      refine ⟨List.pairwise_append.2 ⟨h1, by simp, fun x hx y hy => ?_⟩, fun _ => ⟨by simp, fun x hx => ?_⟩, fun j hj => ?_⟩
      · rw [List.mem_singleton] at hy; subst hy; exact hall x hx
      · rw [show m + 1 - 1 = m by omega]
        rcases List.mem_append.1 hx with hx | hx
        · exact .inr (hall x hx)
        · exact .inl (by simpa using hx)
      · by_cases hjm : j = m
        · subst hjm; simp
        · exact List.mem_append.2 (.inl (h3 j (by omega)))
theorem cmpt_mem {l : List F} (hv : ∀ f ∈ l, vOk f) (hs : l.Pairwise fun a b => cmpF a b ≤ 0) (x : F) : x ∈ cmpt l ↔ x ∈ l := by
  refine ⟨cN_in _ (Nat.le_refl _) x, fun h => ?_⟩
  obtain ⟨j, hj, rfl⟩ := List.getElem_of_mem h
  have := (cN_ok hv hs l.length (Nat.le_refl _)).2.2 j hj
  rwa [fat, getD_at hj] at this
theorem cmpt_asc {l : List F} (hv : ∀ f ∈ l, vOk f) (hs : l.Pairwise fun a b => cmpF a b ≤ 0) : (cmpt l).Pairwise fun a b => cmpF a b < 0 := (cN_ok hv hs l.length (Nat.le_refl _)).1
end Go.Proofs.YtjjaabidbeoomaaGreatDoor
