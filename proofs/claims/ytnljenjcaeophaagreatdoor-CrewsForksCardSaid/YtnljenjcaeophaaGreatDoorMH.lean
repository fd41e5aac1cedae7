/-
  Joined texts.
-/
import Derived.Test.YtnljenjcaeophaaGreatDoorMG
set_option linter.unusedVariables false
set_option linter.unusedSimpArgs false
set_option linter.unusedSectionVars false
namespace Go.Proofs.YtnljenjcaeophaaGreatDoor
open Go.Xe Go.RowKit
def hasE (A : List Ent) (i : Nat) : Bool := A.any fun e => decide (e.1 = some i)
theorem wrL_at (f : Nat → Int) : ∀ (A : List Ent) (g : Nat → Int) (i : Nat), wrL f g A i = if hasE A i = true then f i else g i
 | [], g, i => by simp [wrL, hasE]
 | (some o, lo, hi) :: A, g, i => by
  rw [wrL, wrL_at f A]
  have : hasE ((some o, lo, hi) :: A) i = (decide (o = i) || hasE A i) := by simp [hasE]
  rw [this]
  by_cases h1 : hasE A i = true
  ·simp [h1]
  ·simp only [h1, Bool.or_false, decide_eq_true_eq]
   simp only [wrE, fup]
   by_cases h2 : o = i
   ·subst h2; simp
   ·rw [if_neg h2, if_neg (by simp), if_neg (Ne.symm h2)]
 | (none, lo, hi) :: A, g, i => by
  rw [wrL, wrL_at f A]
  have : hasE ((none, lo, hi) :: A) i = hasE A i := by simp [hasE]
  rw [this]
  rfl
end Go.Proofs.YtnljenjcaeophaaGreatDoor
namespace Go.Proofs.YtnljenjcaeophaaGreatDoor
open Go.Xe Go.RowKit
theorem cb_eq : ∀ a b : List UInt8, Lib.compareBytes a b = 0 ↔ a = b
 | [], [] => by simp [Lib.compareBytes]
 | [], _ :: _ => by simp [Lib.compareBytes]
 | _ :: _, [] => by simp [Lib.compareBytes]
 | x :: a, y :: b => by
  rw [Lib.compareBytes]
  by_cases h1 : x < y
  ·have : x ≠ y := fun e => by subst e; exact absurd h1 (UInt8.lt_irrefl _)
   simp [h1, this]
  ·by_cases h2 : y < x
   ·have : x ≠ y := fun e => by subst e; exact h1 h2
    simp [h1, h2, this]
   ·have : x = y := UInt8.le_antisymm (UInt8.not_lt.1 h2) (UInt8.not_lt.1 h1)
    simp [h1, h2, this, cb_eq a b]
theorem cb_val : ∀ a b : List UInt8, Lib.compareBytes a b = -1 ∨ Lib.compareBytes a b = 0 ∨ Lib.compareBytes a b = 1
 | [], [] => by simp [Lib.compareBytes]
 | [], _ :: _ => by simp [Lib.compareBytes]
 | _ :: _, [] => by simp [Lib.compareBytes]
 | x :: a, y :: b => by
  rw [Lib.compareBytes]
  split
  ·simp
  ·split
   ·simp
   ·exact cb_val a b
def sC (f g : Nat → Int) (i : Nat) : St := mkS 68 [(2, .ptr 2 0), (3, .ptr 3 0), (5, .row 18), (6, .row 25), (7, .d (.v (.int .i64 i)))]
 [(2, fB f), (3, fB g), (18, .row 3 1 3 [.d (.v (.int .i64 (f 2))), .d (.v (.int .i64 (f 0))), .d (.v (.int .i64 (f 1)))]), (25, .row 3 1 3 [.d (.v (.int .i64 (g 2))), .d (.v (.int .i64 (g 0))), .d (.v (.int .i64 (g 1)))])]
@[simp] def vB (k n : Int) (s : ByteArray) (l : List V) : Box := .cells 207 [.d (.v (.int .i64 k)), .d (.v (.int .i64 n)), .d (.v (.string s)), .d (slV l)]
def V.num : V → Int
 | .mk _ n _ _ => n
end Go.Proofs.YtnljenjcaeophaaGreatDoor
namespace Go.Proofs.YtnljenjcaeophaaGreatDoor
open Go.Xe Go.RowKit
def nthI (l : List Int) (i : Nat) : Int := (l[i]?).getD 0
def rdE (l : List Int) : List Ent → Nat → (Nat → Int) × Int → (Nat → Int) × Int
 | [], _, p => p
 | (some o, _, _) :: r, j, p => rdE l r (j + 1) (fup p.1 o (nthI l j), p.2)
 | (none, _, _) :: r, j, p => rdE l r (j + 1) (p.1, nthI l j)
def headG (l : List Int) : Nat → Int := (rdE l headE 0 (f0, 0)).1
def candE (l : List Int) : List Ent := (ents (headG l 3) 0).getD []
def candG (l : List Int) : Nat → Int := fup (rdE l (candE l) 4 (headG l, 0)).1 54 (if (rdE l (candE l) 4 (headG l, 0)).2 = 1 then 1 else 0)
theorem rdE_fst (l : List Int) : ∀ (A B : List Ent), A.map (·.1) = B.map (·.1) → ∀ (j : Nat) (p : (Nat → Int) × Int), rdE l A j p = rdE l B j p
 | [], [], _, _, _ => rfl
 | [], _ :: _, h, _, _ => by simp at h
 | _ :: _, [], h, _, _ => by simp at h
 | (some o, a, b) :: A, (o', a', b') :: B, h, j, p => by
  simp only [List.map_cons, List.cons.injEq] at h
  obtain ⟨rfl, h⟩ := h
  rw [rdE, rdE, rdE_fst l A B h]
 | (none, a, b) :: A, (o', a', b') :: B, h, j, p => by
  simp only [List.map_cons, List.cons.injEq] at h
  obtain ⟨rfl, h⟩ := h
  rw [rdE, rdE, rdE_fst l A B h]
theorem entsR_fst (r : Int) : (entsR r).map (·.1) = [some 47, some 48, some 49, some 50, some 51, some 52] := by
 unfold entsR
 by_cases h1 : r = 1 ∨ r = 2 <;> by_cases h3 : r = 3 <;> by_cases h4 : r = 4 <;> simp [h1, h3, h4]
theorem ents_fst {k r : Int} {E : List Ent} (h : ents k r = some E) : ∃ E0, ents k 0 = some E0 ∧ E0.map (·.1) = E.map (·.1) := by
 by_cases hk : k = 10
 ·subst hk
  simp [ents] at h
  subst h
  exact ⟨entsR 0, by simp [ents], by rw [entsR_fst, entsR_fst]⟩
 ·refine ⟨E, ?_, rfl⟩
  unfold ents at h ⊢
  rw [if_neg hk] at h ⊢
  exact h
theorem nthI_at (P : List Int) (x : Int) (R : List Int) : nthI (P ++ x :: R) P.length = x := by
 rw [nthI, List.getElem?_append_right (Nat.le_refl _), Nat.sub_self]; rfl
theorem rdE_num (f : Nat → Int) (s : Int) (R : List Int) : ∀ (E : List Ent) (P : List Int) (p : (Nat → Int) × Int), rdE (P ++ E.map (valE f s) ++ R) E P.length p = (wrL f p.1 E, flL s p.2 E)
 | [], P, p => rfl
 | (some o, a, b) :: E, P, p => by
  have ih := rdE_num f s R E (P ++ [valE f s (some o, a, b)]) (fup p.1 o (f o), p.2)
  have hn : nthI (P ++ (valE f s (some o, a, b) :: E.map (valE f s)) ++ R) P.length = f o := by rw [List.append_assoc, List.cons_append, nthI_at]; rfl
  rw [List.map_cons, rdE, hn, wrL, flL]
  simp only [List.length_append, List.length_cons, List.length_nil, List.append_assoc, List.cons_append, List.nil_append] at ih ⊢
  exact ih
 | (none, a, b) :: E, P, p => by
  have ih := rdE_num f s R E (P ++ [valE f s (none, a, b)]) (p.1, s)
  have hn : nthI (P ++ (valE f s (none, a, b) :: E.map (valE f s)) ++ R) P.length = s := by rw [List.append_assoc, List.cons_append, nthI_at]; rfl
  rw [List.map_cons, rdE, hn, wrL, flL]
  simp only [List.length_append, List.length_cons, List.length_nil, List.append_assoc, List.cons_append, List.nil_append] at ih ⊢
  exact ih
theorem cand_num {f : Nat → Int} (h : (numF f).2 = true) (hf : fOk f) : candG (numF f).1 = f := by
 unfold numF at h ⊢
 cases hE : ents (f 3) (f 49) with
 | none => rw [hE] at h; simp at h
 | some E =>
  rw [hE] at h
  simp only at h ⊢
  split at h
  case isFalse => simp at h
  case isTrue hc =>
   rw [if_pos hc]
   simp only at h ⊢
   have hA : (headE ++ E).all entOk = true := by rw [List.all_append, head_entOk, ents_entOk hE]; rfl
   have hr := rest1_ok hf hA (flL (susp f) 0 (headE ++ E))
   have he := (eqF_iff hr hf).1 h
   have h1 := rdE_num f (susp f) (E.map (valE f (susp f))) headE [] (f0, 0)
   have h2 := rdE_num f (susp f) [] E (headE.map (valE f (susp f))) (wrL f f0 headE, 0)
   simp only [List.nil_append, List.length_nil, List.append_nil, ← List.map_append, List.length_map, show headE.length = 4 from rfl] at h1 h2
   have hg : headG ((headE ++ E).map (valE f (susp f))) = wrL f f0 headE := by rw [headG, h1]
   obtain ⟨E0, hE0, hfst⟩ := ents_fst hE
   have h3 : headG ((headE ++ E).map (valE f (susp f))) 3 = f 3 := by rw [hg]; simp [headE, wrL, wrE, fup]
   have hcE : candE ((headE ++ E).map (valE f (susp f))) = E0 := by rw [candE, h3, hE0]; rfl
   have h4 := rdE_fst ((headE ++ E).map (valE f (susp f))) E0 E hfst 4 (wrL f f0 headE, 0)
   rw [h2] at h4
   have hfl : flL (susp f) 0 E = flL (susp f) 0 (headE ++ E) := by rw [flL_append]; rfl
   have hcand : candG ((headE ++ E).map (valE f (susp f))) = fup (wrL f f0 (headE ++ E)) 54 (if flL (susp f) 0 (headE ++ E) = 1 then 1 else 0) := by
    rw [candG, hcE, hg, h4, wrL_append, hfl]
   rw [hcand]
   funext i
   have hi := congrFun he i
   by_cases h54 : i = 54
   ·subst h54
    rw [← hi]
    simp [rest1, fup]
   ·have e1 : fup (wrL f f0 (headE ++ E)) 54 (if flL (susp f) 0 (headE ++ E) = 1 then 1 else 0) i = wrL f f0 (headE ++ E) i := if_neg h54
    rw [e1, wrL_at]
    split
    ·rfl
    ·rename_i hno
     rw [← hi]
     rw [rest1, fup, if_neg h54]
     have h3' : i ≠ 3 := by rintro rfl; exact hno (by simp [hasE, headE])
     split
     ·rename_i hk
      have h49 : i ≠ 49 := by
       rintro rfl
       apply hno
       rw [hk] at hE
       simp [ents] at hE
       subst hE
       simp [hasE, entsR]
      rw [wrL_at, if_neg hno]
      simp [rest0, fup, f0, h3', h49]
     ·rw [fup]
      split
      ·rfl
      ·rename_i h49
       rw [wrL_at, if_neg hno]
       simp [rest0, fup, f0, h3', h49]
def V.items : V → List V
 | .mk _ _ _ l => l
structure Cmp {α : Type} (c : α → α → Int) : Prop where
 val : ∀ a b, c a b = -1 ∨ c a b = 0 ∨ c a b = 1
 anti : ∀ a b, c b a = - c a b
 trans : ∀ a b d, c a b ≤ 0 → c b d ≤ 0 → c a d ≤ 0
 same : ∀ a b d, c a b = 0 → c a d = c b d
theorem Cmp.lex {α : Type} {c e : α → α → Int} (h : Cmp c) (k : Cmp e) : Cmp fun a b => if c a b = 0 then e a b else c a b where
 val a b := by
  split
  ·exact k.val a b
  ·exact h.val a b
 anti a b := by
  have := h.anti a b
  by_cases h0 : c a b = 0
  ·have h1 : c b a = 0 := by omega
   rw [if_pos h0, if_pos h1]
   exact k.anti a b
  ·have h1 : ¬ c b a = 0 := by omega
   rw [if_neg h0, if_neg h1]
   exact this
 trans a b d hab hbd := by
  by_cases h0 : c a b = 0
  ·rw [if_pos h0] at hab
   rw [h.same a b d h0]
   by_cases h1 : c b d = 0
   ·rw [if_pos h1] at hbd
    rw [if_pos h1]
    exact k.trans a b d hab hbd
   ·rw [if_neg h1] at hbd
    rw [if_neg h1]
    exact hbd
  ·rw [if_neg h0] at hab
   by_cases h1 : c b d = 0
   ·have h2 : c d b = 0 := by have := h.anti b d; omega
    have h3 := h.same d b a h2
    have h4 := h.anti a d
    have h5 := h.anti a b
    have h6 : c a d = c a b := by omega
    rw [h6, if_neg h0]
    exact hab
   ·rw [if_neg h1] at hbd
    have h2 := h.trans a b d hab hbd
    have h3 : ¬ c a d = 0 := fun h3 => by
     have h4 : c d a = 0 := by have := h.anti a d; omega
     have h5 := h.same d a b h4
     have h6 := h.anti b d
     have h7 := h.val a b
     have h8 := h.val b d
     omega
    rw [if_neg h3]
    exact h2
 same a b d hab := by
  by_cases h0 : c a b = 0
  ·rw [if_pos h0] at hab
   rw [h.same a b d h0, k.same a b d hab]
  ·rw [if_neg h0] at hab
   exact absurd hab h0
theorem Cmp.on {α β : Type} {c : β → β → Int} (h : Cmp c) (p : α → β) : Cmp fun a b => c (p a) (p b) :=
 ⟨fun _ _ => h.val _ _, fun _ _ => h.anti _ _, fun _ _ _ => h.trans _ _ _, fun _ _ _ => h.same _ _ _⟩
theorem cmp_int : Cmp cmpI where
 val a b := by unfold cmpI; split <;> (try split) <;> simp
 anti a b := by unfold cmpI; split <;> split <;> (try split) <;> omega
 trans a b d := by unfold cmpI; intro h1 h2; split at h1 <;> split at h2 <;> (try split at h1) <;> (try split at h2) <;> split <;> (try split) <;> omega
 same a b d := by unfold cmpI; intro h1; split at h1 <;> (try split at h1) <;> first | omega | (rw [show a = b by omega]; done)
theorem cb_anti : ∀ a b : List UInt8, Lib.compareBytes b a = - Lib.compareBytes a b
 | [], [] => rfl
 | [], _ :: _ => rfl
 | _ :: _, [] => rfl
 | x :: a, y :: b => by
  rw [Lib.compareBytes, Lib.compareBytes, cb_anti a b]
  by_cases h1 : x < y
  ·have h2 : ¬ y < x := fun h2 => absurd (UInt8.lt_trans h1 h2) (UInt8.lt_irrefl _)
   simp [h1, h2]
  ·by_cases h2 : y < x <;> simp [h1, h2]
theorem cb_trans : ∀ a b d : List UInt8, Lib.compareBytes a b ≤ 0 → Lib.compareBytes b d ≤ 0 → Lib.compareBytes a d ≤ 0
 | [], _, [], _, _ => by simp [Lib.compareBytes]
 | [], _, _ :: _, _, _ => by simp [Lib.compareBytes]
 | _ :: _, [], _, h, _ => by simp [Lib.compareBytes] at h
 | _ :: _, _ :: _, [], _, h => by simp [Lib.compareBytes] at h
 | x :: a, y :: b, z :: d, h1, h2 => by
  rw [Lib.compareBytes] at h1 h2 ⊢
  have ih := cb_trans a b d
  have tr := fun (p : x < y) (q : y < z) => UInt8.lt_trans p q
  by_cases xy : x < y
  ·by_cases yz : y < z
   ·simp [tr xy yz]
   ·by_cases zy : z < y
    ·simp [yz, zy] at h2
    ·have e : y = z := UInt8.le_antisymm (UInt8.not_lt.1 zy) (UInt8.not_lt.1 yz)
     subst e
     simp [xy]
  ·by_cases yx : y < x
   ·simp [xy, yx] at h1
   ·have e : x = y := UInt8.le_antisymm (UInt8.not_lt.1 yx) (UInt8.not_lt.1 xy)
    subst e
    simp only [xy, if_false] at h1
    by_cases yz : x < z
    ·simp [yz]
    ·by_cases zy : z < x
     ·simp [yz, zy] at h2
     ·simp only [yz, zy, if_false] at h2 ⊢
      exact ih h1 h2
theorem cmp_bytes : Cmp Lib.compareBytes := ⟨cb_val, cb_anti, cb_trans, fun a b d h => by rw [(cb_eq a b).1 h]⟩
theorem cmp_fact : Cmp cmpF := by
 have h := ((cmp_int.on fun f : Nat → Int => f 2).lex (((cmp_int.on fun f : Nat → Int => f 0).lex ((cmp_int.on fun f : Nat → Int => f 1).lex (cmp_bytes.on fun f : Nat → Int => (encR f).1)))))
 have e : cmpF = fun f g => if cmpI (f 2) (g 2) = 0 then (if cmpI (f 0) (g 0) = 0 then (if cmpI (f 1) (g 1) = 0 then Lib.compareBytes (encR f).1 (encR g).1 else cmpI (f 1) (g 1)) else cmpI (f 0) (g 0)) else cmpI (f 2) (g 2) := by
  funext f g
  unfold cmpF headC orL
  by_cases h2 : cmpI (f 2) (g 2) = 0
  ·simp only [h2, if_true]
   by_cases h0 : cmpI (f 0) (g 0) = 0
   ·simp only [orL, h0, if_true]
    by_cases h1 : cmpI (f 1) (g 1) = 0
    ·simp [h1]
    ·simp [h1]
   ·simp [orL, h0]
  ·simp [h2]
 rw [e]
 exact h
theorem enc_inj {f g : Nat → Int} (hf : fOk f) (hg : fOk g) (vf : (numF f).2 = true) (vg : (numF g).2 = true) (h : (encR f).1 = (encR g).1) : f = g := by
 rw [encR, encR, if_pos vf, if_pos vg] at h
 simp only at h
 have hf1 := (numF_in hf)
 have hg1 := (numF_in hg)
 have a := intsV_facts hf1.1 (by omega)
 have b := intsV_facts hg1.1 (by omega)
 unfold encF at h
 have ra := V.read (intsV (numF f).1) 16 [] (V.chk_ok a.1) a.2.1 (by omega) (by omega)
 have rb := V.read (intsV (numF g).1) 16 [] (V.chk_ok b.1) b.2.1 (by omega) (by omega)
 rw [h, rb] at ra
 simp only [Option.some.injEq, Prod.mk.injEq, and_true] at ra
 have hn : (numF g).1 = (numF f).1 := by
  have := congrArg (fun v => (V.items v).map V.num) ra
  simpa [intsV, V.items, intV, V.num, Function.comp_def] using this
 rw [← cand_num vf hf, ← cand_num vg hg, hn]
theorem cmp_zero {f g : Nat → Int} (hf : fOk f) (hg : fOk g) (vf : (numF f).2 = true) (vg : (numF g).2 = true) : cmpF f g = 0 ↔ f = g := by
 constructor
 ·intro h
  unfold cmpF at h
  split at h
  ·exact enc_inj hf hg vf vg ((cb_eq _ _).1 h)
  ·rename_i h'; exact absurd h h'
 ·rintro rfl
  have := cmp_fact.anti f f
  omega
end Go.Proofs.YtnljenjcaeophaaGreatDoor
