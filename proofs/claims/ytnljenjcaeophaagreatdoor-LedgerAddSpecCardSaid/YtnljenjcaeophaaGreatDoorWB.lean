/-
  Joined texts.
-/
import Derived.Test.YtnljenjcaeophaaGreatDoorWH
set_option linter.unusedVariables false
set_option linter.unusedSimpArgs false
set_option linter.unusedSectionVars false
namespace Go.Proofs.YtnljenjcaeophaaGreatDoor
open Go.Xe Go.RowKit
abbrev F := Nat → Int
def fsC (l : List F) : List D := l.flatMap fun f => fcs f 0 57
@[simp] theorem Ba_ : fsC [] = [] := rfl
theorem c8_ (f : F) (l : List F) : fsC (f :: l) = fcs f 0 57 ++ fsC l := by simp [fsC]
theorem pQ_ (a b : List F) : fsC (a ++ b) = fsC a ++ fsC b := by simp [fsC]
theorem aq_ (f : F) : (fcs f 0 57).length = 57 := by simp [fcs]
theorem fsC_len : ∀ l : List F, (fsC l).length = l.length * 57
 | [] => rfl
 | f :: l => by rw [c8_, List.length_append, aq_, fsC_len l, List.length_cons]; omega
theorem kl_ : ∀ (l : List F) (i : Nat), (fsC l).drop (i * 57) = fsC (l.drop i)
 | l, 0 => by simp
 | [], i + 1 => by simp
 | f :: l, i + 1 => by
  rw [c8_, List.drop_append, List.drop_of_length_le (by rw [aq_]; omega), aq_, List.nil_append, show (i + 1) * 57 - 57 = i * 57 by omega, kl_ l i, List.drop_succ_cons]
theorem kj_ : ∀ (l : List F) (i : Nat), (fsC l).take (i * 57) = fsC (l.take i)
 | l, 0 => by simp
 | [], i + 1 => by simp
 | f :: l, i + 1 => by
  rw [c8_, List.take_append, List.take_of_length_le (by rw [aq_]; omega), aq_, show (i + 1) * 57 - 57 = i * 57 by omega, kj_ l i, List.take_succ_cons, c8_]
def fat (l : List F) (i : Nat) : F := l.getD i f0
theorem f0_ {l : List F} {i : Nat} (h : i < l.length) : l.getD i f0 = l[i] := by simp [List.getD_eq_getElem?_getD, h]
theorem dn_ {l : List F} {i : Nat} (h : i < l.length) : fat l i ∈ l := by
 rw [fat, f0_ h]; exact List.getElem_mem h
theorem tT_ {l : List F} {i : Nat} (h : i < l.length) : l.drop i = fat l i :: l.drop (i + 1) := by
 rw [fat, f0_ h]; exact List.drop_eq_getElem_cons h
theorem hf_ {l : List F} {i : Nat} (h : i < l.length) : l.take (i + 1) = l.take i ++ [fat l i] := by
 rw [fat, f0_ h, List.take_add_one, List.getElem?_eq_getElem h]; rfl
theorem rK_ {l : List F} {i : Nat} (h : i < l.length) : ((fsC l).drop (i * 57)).take 57 = fcs (fat l i) 0 57 := by
 rw [kl_, tT_ h, c8_, List.take_append, aq_, Nat.sub_self, List.take_zero, List.append_nil, List.take_of_length_le (by rw [aq_]; omega)]
theorem km_ {l : List F} {i : Nat} (h : i < l.length) : (((fsC l).map AV.d).drop (i * 57)).take 57 = (fcs (fat l i) 0 57).map .d := by
 rw [← List.map_drop, ← List.map_take, rK_ h]
theorem c0_ : ∀ (xs cs : List AV) (off : Nat), off + xs.length ≤ cs.length → setL cs off xs = cs.take off ++ xs ++ cs.drop (off + xs.length)
 | [], cs, off, _ => by simp [setL]
 | x :: xs, cs, off, h => by
  simp only [List.length_cons] at h
  rw [setL, c0_ xs (cs.set off x) (off + 1) (by simp; omega)]
  have ho : off < cs.length := by omega
  rw [List.set_eq_take_append_cons_drop, if_pos ho]
  have hl : (cs.take off).length = off := by simp; omega
  have e1 : (cs.take off ++ x :: cs.drop (off + 1)).take (off + 1) = cs.take off ++ [x] := by
   rw [List.take_append, hl, List.take_of_length_le (by omega), show off + 1 - off = 1 by omega]; rfl
  have e2 : (cs.take off ++ x :: cs.drop (off + 1)).drop (off + 1 + xs.length) = cs.drop (off + (xs.length + 1)) := by
   rw [List.drop_append, hl, List.drop_of_length_le (by omega), List.nil_append, show off + 1 + xs.length - off = xs.length + 1 by omega, List.drop_succ_cons, List.drop_drop]
   congr 1; omega
  rw [e1, e2]
  simp
theorem kk_ {l : List F} {i : Nat} (h : i < l.length) (f : F) : setL ((fsC l).map .d) (i * 57) ((fcs f 0 57).map .d) = (fsC (l.set i f)).map .d := by
 rw [c0_ _ _ _ (by rw [List.length_map, List.length_map, aq_, fsC_len]; have := Nat.mul_le_mul_right 57 h; omega)]
 rw [List.length_map, aq_, ← List.map_take, ← List.map_drop, ← List.map_append, ← List.map_append, show i * 57 + 57 = (i + 1) * 57 by omega, kj_, kl_, List.set_eq_take_append_cons_drop, if_pos h, pQ_, c8_, List.append_assoc]
theorem take_set {l : List F} {i : Nat} (h : i < l.length) (f : F) : (l.set i f).take (i + 1) = l.take i ++ [f] := by
 rw [List.set_eq_take_append_cons_drop, if_pos h, List.take_append, List.length_take, Nat.min_eq_left (by omega), List.take_of_length_le (by simp; omega), show i + 1 - i = 1 by omega]
 rfl
/-! ### each once: what is not as the one ahead of it -/
def cN (l : List F) : Nat → List F
 | 0 => []
 | m + 1 => cN l m ++ if m = 0 ∨ aE_ (fat l m) (fat l (m - 1)) ≠ 0 then [fat l m] else []
def cmpt (l : List F) : List F := cN l l.length
theorem uR_ (l : List F) : ∀ m, (cN l m).length ≤ m
 | 0 => by simp [cN]
 | m + 1 => by
  have := uR_ l m
  rw [cN, List.length_append]
  split <;> simp <;> omega
theorem o6_ {l : List F} : ∀ m, m ≤ l.length → (∀ j, 1 ≤ j → j < m → aE_ (fat l j) (fat l (j - 1)) ≠ 0) → cN l m = l.take m
 | 0, _, _ => by simp [cN]
 | m + 1, h, hj => by
  rw [cN, o6_ m (by omega) (fun j h1 h2 => hj j h1 (by omega)), hf_ (by omega), if_pos]
  rcases Nat.eq_zero_or_pos m with h0 | h0
  ·exact .inl h0
  ·exact .inr (hj m h0 (by omega))
theorem ye_ {l : List F} : ∀ m, m ≤ l.length → ∀ x ∈ cN l m, x ∈ l
 | 0, _, x, h => by simp [cN] at h
 | m + 1, hm, x, h => by
  rw [cN, List.mem_append] at h
  rcases h with h | h
  ·exact ye_ m (by omega) x h
  ·split at h
   ·rw [List.mem_singleton] at h; subst h; exact dn_ (by omega)
   ·cases h
def vOk (f : F) : Prop := fOk f ∧ (numF f).2 = true
theorem wk_ {l : List F} (hv : ∀ f ∈ l, vOk f) (hs : l.Pairwise fun a b => aE_ a b ≤ 0) : ∀ m, m ≤ l.length → (cN l m).Pairwise (fun a b => aE_ a b < 0) ∧ (0 < m → fat l (m - 1) ∈ cN l m ∧ ∀ x ∈ cN l m, x = fat l (m - 1) ∨ aE_ x (fat l (m - 1)) < 0) ∧ ∀ j, j < m → fat l j ∈ cN l m
 | 0, _ => ⟨List.Pairwise.nil, fun h => absurd h (Nat.lt_irrefl _), fun j h => absurd h (Nat.not_lt_zero _)⟩
 | m + 1, h => by
  obtain ⟨h1, h2, h3⟩ := wk_ hv hs m (by omega)
  rw [cN]
  rcases Nat.eq_zero_or_pos m with h0 | h0
  ·subst h0
   rw [if_pos (.inl rfl)]
   refine ⟨by simp [cN], fun _ => ⟨by simp, fun x hx => ?_⟩, fun j hj => ?_⟩
   ·simp [cN] at hx; exact .inl (by simpa using hx)
   ·have : j = 0 := by omega
    subst this; simp
  obtain ⟨h4, h5⟩ := h2 h0
  have hle : aE_ (fat l (m - 1)) (fat l m) ≤ 0 := by
   have a : m - 1 < l.length := by omega
   have b : m < l.length := by omega
   unfold fat
   rw [f0_ a, f0_ b]
   exact List.pairwise_iff_getElem.1 hs (m - 1) m a b (by omega)
  have va := hv _ (dn_ (show m < l.length by omega))
  have vb := hv _ (dn_ (show m - 1 < l.length by omega))
  by_cases hc : aE_ (fat l m) (fat l (m - 1)) = 0
  ·have he : fat l m = fat l (m - 1) := (o1_ va.1 vb.1 va.2 vb.2).1 hc
   rw [if_neg (by rintro (h6 | h6); omega; exact h6 hc), List.append_nil]
   refine ⟨h1, fun _ => ?_, fun j hj => ?_⟩
   ·rw [show m + 1 - 1 = m by omega, he]; exact ⟨h4, h5⟩
   ·by_cases hjm : j = m
    ·subst hjm; rw [he]; exact h4
    ·exact h3 j (by omega)
  ·rw [if_pos (.inr hc)]
   have hlt : aE_ (fat l (m - 1)) (fat l m) < 0 := by
    have := cmp_fact.anti (fat l m) (fat l (m - 1)); omega
   have hall : ∀ x ∈ cN l m, aE_ x (fat l m) < 0 := fun x hx => by
    rcases h5 x hx with e | e
    ·rw [e]; exact hlt
    ·have t := cmp_fact.trans x (fat l (m - 1)) (fat l m) (by omega) hle
     have n : aE_ x (fat l m) ≠ 0 := fun n => by
      have s := cmp_fact.same x (fat l m) (fat l (m - 1)) n
      have t2 := cmp_fact.anti (fat l m) (fat l (m - 1))
      omega
     omega
   refine ⟨List.pairwise_append.2 ⟨h1, by simp, fun x hx y hy => ?_⟩, fun _ => ⟨by simp, fun x hx => ?_⟩, fun j hj => ?_⟩
   ·rw [List.mem_singleton] at hy; subst hy; exact hall x hx
   ·rw [show m + 1 - 1 = m by omega]
    rcases List.mem_append.1 hx with hx | hx
    ·exact .inr (hall x hx)
    ·exact .inl (by simpa using hx)
   ·by_cases hjm : j = m
    ·subst hjm; simp
    ·exact List.mem_append.2 (.inl (h3 j (by omega)))
theorem t0_ {l : List F} (hv : ∀ f ∈ l, vOk f) (hs : l.Pairwise fun a b => aE_ a b ≤ 0) (x : F) : x ∈ cmpt l ↔ x ∈ l := by
 refine ⟨ye_ _ (Nat.le_refl _) x, fun h => ?_⟩
 obtain ⟨j, hj, rfl⟩ := List.getElem_of_mem h
 have := (wk_ hv hs l.length (Nat.le_refl _)).2.2 j hj
 rwa [fat, f0_ hj] at this
theorem t1_ {l : List F} (hv : ∀ f ∈ l, vOk f) (hs : l.Pairwise fun a b => aE_ a b ≤ 0) : (cmpt l).Pairwise fun a b => aE_ a b < 0 := (wk_ hv hs l.length (Nat.le_refl _)).1
def ca_ (f : F) : Int × Int := (f 0, f 1)
def recS (t : Int) : List F → List (Int × Int) → List F
 | [], _ => []
 | f :: l, met => if t < f 2 ∨ ca_ f ∈ met then recS t l met else f :: recS t l (met ++ [ca_ f])
def kQ_ (f : F) : Bool := decide (f 3 = 13) && decide (f 0 ≤ f 55)
def oc_ (r : List F) : List (Int × Int) := (r.filter kQ_).map fun f => (f 55, f 56)
def fH_ (t : Int) (all : List F) : List F := (recS t all []).filter fun f => !decide (f 3 = 13) && !decide (ca_ f ∈ oc_ (recS t all []))
theorem e8_ (t : Int) : ∀ (l : List F) (met : List (Int × Int)), (recS t l met).Sublist l
 | [], _ => List.Sublist.slnil
 | f :: l, met => by
  rw [recS]
  split
  ·exact (e8_ t l met).cons f
  ·exact (e8_ t l _).cons_cons f
theorem yd_ {f g : F} (h : aE_ f g < 0) : f 2 ≤ g 2 := by
 unfold aE_ bJ_ orL at h
 by_cases h2 : dr_ (f 2) (g 2) = 0
 ·unfold dr_ at h2
  split at h2 <;> (try split at h2) <;> omega
 ·rw [if_neg (by simp [h2])] at h
  simp only [h2, if_false, ne_eq, not_false_eq_true, if_true] at h
  unfold dr_ at h
  split at h <;> (try split at h) <;> first | omega | (simp at h)
theorem e9_ {t : Int} : ∀ {l : List F} {met : List (Int × Int)}, l.Pairwise (fun a b => aE_ a b < 0) → ∀ f, f ∈ recS t l met ↔ f ∈ l ∧ f 2 ≤ t ∧ ca_ f ∉ met ∧ ∀ g ∈ l, ca_ g = ca_ f → ¬ aE_ g f < 0
 | [], _, _, f => by simp [recS]
 | x :: l, met, hp, f => by
  have hp2 := (List.pairwise_cons.1 hp).2
  have hp1 := (List.pairwise_cons.1 hp).1
  have irr : ∀ a : F, ¬ aE_ a a < 0 := fun a h => by have := cmp_fact.anti a a; omega
  have asy : ∀ {a b : F}, aE_ a b < 0 → ¬ aE_ b a < 0 := fun {a b} h h' => by have := cmp_fact.anti a b; omega
  rw [recS]
  split
  ·rename_i hx
   rw [e9_ hp2]
   constructor
   ·rintro ⟨h1, h2, h3, h4⟩
    refine ⟨List.mem_cons_of_mem _ h1, h2, h3, fun g hg he hl => ?_⟩
    rcases List.mem_cons.1 hg with rfl | hg
    ·rcases hx with hx | hx
     ·have := yd_ hl; omega
     ·rw [he] at hx; exact h3 hx
    ·exact h4 g hg he hl
   ·rintro ⟨h1, h2, h3, h4⟩
    rcases List.mem_cons.1 h1 with rfl | h1
    ·rcases hx with hx | hx
     ·omega
     ·exact absurd hx h3
    ·exact ⟨h1, h2, h3, fun g hg => h4 g (List.mem_cons_of_mem _ hg)⟩
  ·rename_i hx
   have hx1 : x 2 ≤ t := by
    rcases Int.lt_or_le t (x 2) with h | h
    ·exact absurd (.inl h) hx
    ·exact h
   have hx2 : ca_ x ∉ met := fun h => hx (.inr h)
   rw [List.mem_cons, e9_ hp2]
   constructor
   ·rintro (rfl | ⟨h1, h2, h3, h4⟩)
    ·refine ⟨by simp, hx1, hx2, fun g hg he hl => ?_⟩
     rcases List.mem_cons.1 hg with rfl | hg
     ·exact irr _ hl
     ·exact asy (hp1 g hg) hl
    ·refine ⟨List.mem_cons_of_mem _ h1, h2, fun h => h3 (by simp [h]), fun g hg he hl => ?_⟩
     rcases List.mem_cons.1 hg with rfl | hg
     ·exact h3 (by simp [he])
     ·exact h4 g hg he hl
   ·rintro ⟨h1, h2, h3, h4⟩
    rcases List.mem_cons.1 h1 with rfl | h1
    ·exact .inl rfl
    ·refine .inr ⟨h1, h2, fun h => ?_, fun g hg => h4 g (List.mem_cons_of_mem _ hg)⟩
     rcases List.mem_append.1 h with h | h
     ·exact h3 h
     ·have he : ca_ f = ca_ x := by simpa using h
      exact h4 x (by simp) he.symm (hp1 f h1)
theorem kP_ {r : List F} {p : Int × Int} : p ∈ oc_ r ↔ ∃ g ∈ r, g 3 = 13 ∧ g 0 ≤ g 55 ∧ (g 55, g 56) = p := by
 simp only [oc_, List.mem_map, List.mem_filter, kQ_, Bool.and_eq_true, decide_eq_true_eq]
 constructor
 ·rintro ⟨g, ⟨h1, h2, h3⟩, h4⟩; exact ⟨g, h1, h2, h3, h4⟩
 ·rintro ⟨g, h1, h2, h3, h4⟩; exact ⟨g, ⟨h1, h2, h3⟩, h4⟩
theorem sW_ (t : Int) (l : List F) : (fH_ t l).Sublist l := List.filter_sublist.trans (e8_ t l [])
theorem sX_ {t : Int} {l : List F} (hp : l.Pairwise fun a b => aE_ a b < 0) (f : F) : f ∈ fH_ t l ↔
  (f ∈ l ∧ f 2 ≤ t ∧ ∀ g ∈ l, ca_ g = ca_ f → ¬ aE_ g f < 0) ∧ f 3 ≠ 13 ∧ ∀ g ∈ l, g 2 ≤ t → (∀ h ∈ l, ca_ h = ca_ g → ¬ aE_ h g < 0) → ¬ (g 3 = 13 ∧ g 0 ≤ f 0 ∧ (g 55, g 56) = ca_ f) := by
 unfold fH_
 rw [List.mem_filter, e9_ hp]
 simp only [List.not_mem_nil, not_false_eq_true, true_and, Bool.and_eq_true, Bool.not_eq_true', decide_eq_false_iff_not]
 refine and_congr Iff.rfl (and_congr Iff.rfl ?_)
 rw [kP_]
 constructor
 ·rintro h g hg h1 h2 ⟨h3, h4, h5⟩
  refine h ⟨g, (e9_ hp g).2 ⟨hg, h1, by simp, h2⟩, h3, ?_, h5⟩
  have : g 55 = f 0 := congrArg Prod.fst h5
  omega
 ·rintro h ⟨g, hg, h3, h4, h5⟩
  obtain ⟨hg1, hg2, _, hg3⟩ := (e9_ hp g).1 hg
  refine h g hg1 hg2 hg3 ⟨h3, ?_, h5⟩
  have : g 55 = f 0 := congrArg Prod.fst h5
  omega
abbrev R2 := Int × Int
def ltR (a b : R2) : Prop := a.1 < b.1 ∨ (a.1 = b.1 ∧ a.2 < b.2)
instance (a b : R2) : Decidable (ltR a b) := inferInstanceAs (Decidable (_ ∨ _))
/-! ### what is altered -/
/-! ### what is missing -/
end Go.Proofs.YtnljenjcaeophaaGreatDoor
