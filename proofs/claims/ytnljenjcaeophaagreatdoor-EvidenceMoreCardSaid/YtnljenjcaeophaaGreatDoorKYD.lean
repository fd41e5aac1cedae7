/-
  Joined texts.
-/
import Derived.Test.YtnljenjcaeophaaGreatDoorKOA
import Derived.Test.YtnljenjcaeophaaGreatDoorKAB
import Derived.Test.YtnljenjcaeophaaGreatDoorKUk
import Derived.Test.YtnljenjcaeophaaGreatDoorKR
import Derived.Test.YtnljenjcaeophaaGreatDoorKYE
set_option maxRecDepth 10000
set_option linter.unusedVariables false
set_option linter.unusedSimpArgs false
set_option linter.unusedSectionVars false
namespace Go.Proofs.YtnljenjcaeophaaGreatDoor
open Go.Xe Go.RowKit
abbrev fcS (l : List Crw) (i : Nat) : St := mkS 23 [(0, .d (crwD l)), (5, .d (crwD l)), (6, .d (.v (.int .i64 l.length))), (7, .d (.v (.int .i64 i)))] []
def fewK (c : Crw) : Bool := !(decide (16 < c.2) && decide (c.2 ≤ 4096))
def fewC (l : List Crw) : Bool := l.all fewK && decide ((l.length : Int) ≤ 4)
theorem fewC_ok (l : List Crw) (hl : ∀ c ∈ l, crOk c) (hn : l.length ≤ 10000000000000) : Fn0 Tryz.prog 12 [crwD l] (.v (.bool (fewC l))) := by
 refine Fun.of_wp (pn := noPn) Tryz.tab Tryz.func12 rfl fun β0 => ?_
 simp only [Tryz.f12]
 repeat(first|apply wG|(apply wR;simp -dsimp [crwD])|refine aI ?_)
 refine WP.loopWk (fun q S => ∃ l1 l2, l = l1 ++ l2 ∧ q = l2.length ∧ l1.all fewK = true ∧ S = fcS l l1.length) l.length (S0 := fcS l 0) (Wk.lessE [] (by simp [crwD]) (by simp)) ⟨[], l, rfl, rfl, rfl, rfl⟩ ?_
 rintro _ _ ⟨l1, l2, hl12, rfl, ha, rfl⟩
 simp -dsimp [crwD]
 repeat(first|apply wG|(apply wR;simp -dsimp)|refine aI ?_)
 cases l2 with
 | nil =>
  simp only [List.append_nil] at hl12
  subst hl12
  refine cF (by simp) ?_
  refine WP.exit ?_
  simp -dsimp
  repeat(first|apply wG|(apply wR;simp -dsimp)|refine aI ?_)
  refine WP.ret (finQ.retE ?_)
  simp -dsimp [fewC, ha]
 | cons c l2 =>
  have hll : l.length = l1.length + (l2.length + 1) := by rw [hl12]; simp
  have hc := hl c (by rw [hl12]; simp)
  have hat := crC_at (l1 := l1) (c := c) (l2 := l2) (by rw [← hl12]; exact hl)
  rw [← hl12] at hat
  have e1 : IntKind.i64.wrap ((l1.length : Int) + 1) = (l1.length : Int) + 1 := IntWalk.i64_in _ (by omega)
  have hcl := crX_len hc
  have hm := crX_atL hc
  have ht33 : List.take 33 (crX c) = crX c := List.take_of_length_le (by omega)
  have hcc := crC_len hl
  have hlt : l1.length < l.length := by omega
  have hce : (crX c)[32]'(by omega) = .v (.int .i64 c.2) := by
   have h := crX_m hc
   rw [List.getElem?_eq_getElem (by omega)] at h
   exact Option.some.inj h
  refine cT (by simp; omega) ?_
  refine WP.skip ?_
  simp -dsimp
  repeat(first|apply wG|(apply wR;simp -dsimp [hat, hcl, hlt, ht33])|refine aI ?_)
  refine And.intro (fun a h => crX_one h) ?_
  repeat(first|apply wG|(apply wR;simp -dsimp [hcl, hm, hce])|refine aI ?_)
  by_cases hb : fewK c = true
  ·refine cF (by simp [fewK] at hb; simp; omega) ?_
   refine WP.skip ?_
   simp -dsimp
   repeat(first|apply wG|(apply wR;simp -dsimp)|refine aI ?_)
   refine loopW.next (fcS l (l1 ++ [c]).length) (Wk.lessE [] (by simp [crwD, e1]) (by simp)) l2.length (by simp) ⟨l1 ++ [c], l2, by simp [hl12], rfl, by rw [List.all_append, ha]; simp [hb], rfl⟩
  ·have hb : fewK c = false := by simpa using hb
   refine cT (by simp [fewK] at hb; simp; omega) ?_
   have hf : fewC l = false := by rw [fewC, hl12, List.all_append, List.all_cons, hb]; simp
   repeat(first|apply wG|(apply wR;simp -dsimp)|refine aI ?_)
   refine WP.ret (finQ.retE ?_)
   simp -dsimp [hf]
theorem fewC_4 {l : List Crw} (h : fewC l = true) : l.length ≤ 4 := by
 rw [fewC, Bool.and_eq_true, decide_eq_true_eq] at h
 omega
theorem sgU_sgF {p : Sg} (h : sgU p) : sgF p := by
 obtain ⟨k, op, cl, pa, e, h, _⟩ := h
 exact ⟨k, 32, op.length, 32, cl.length, 32, pa.length, dgL op, dgL cl, dgL pa, h, e⟩
theorem sgU_TB {p : Sg} (h : sgU p) (hs : shrtB p = true) : sgT p := by
 refine sgU_T h ?_
 obtain ⟨k, op, cl, pa, e, _⟩ := h
 rw [shrtB, e] at hs
 rw [shrtT, e]
 exact hs
theorem few_sgT {l : List Sg} (h : fewB l = true) (hu : ∀ p ∈ l, sgU p) : ∀ p ∈ l, sgT p := fun p hp => by
 rw [fewB, Bool.and_eq_true, Bool.and_eq_true] at h
 exact sgU_TB (hu p hp) (List.all_eq_true.1 h.2.2 p hp)
theorem few_ten {l : List Sg} (h : fewB l = true) : l.length ≤ 10 ∧ ∀ p ∈ l, p.1 1 ≤ 200 := by
 simp only [fewB, Bool.and_eq_true, List.all_eq_true, decide_eq_true_eq] at h
 exact ⟨h.2.1, fun p hp => by have := h.1 p hp; simpa [noB] using this⟩
theorem insS_sub {s : Sg} : ∀ {l : List Sg} {t : Sg}, t ∈ insS s l → t = s ∨ t ∈ l
 | [], t, h => .inl (by simpa [insS] using h)
 | a :: l, t, h => by
  rw [insS] at h
  split at h
  ·rcases List.mem_cons.1 h with rfl | h
   ·exact .inr (by simp)
   ·rcases insS_sub h with h | h
    ·exact .inl h
    ·exact .inr (by simp [h])
  ·split at h
   ·exact .inr h
   ·rcases List.mem_cons.1 h with h | h
    ·exact .inl h
    ·exact .inr h
theorem setS_sub0 : ∀ (l a : List Sg) {t : Sg}, t ∈ l.foldl (fun a s => insS s a) a → t ∈ a ∨ t ∈ l
 | [], a, t, h => .inl h
 | s :: l, a, t, h => by
  rw [List.foldl_cons] at h
  rcases setS_sub0 l (insS s a) h with h | h
  ·rcases insS_sub h with h | h
   ·exact .inr (by simp [h])
   ·exact .inl h
  ·exact .inr (by simp [h])
theorem setS_sub {l : List Sg} {t : Sg} (h : t ∈ setS l) : t ∈ l := by
 rcases setS_sub0 l [] h with h | h
 ·cases h
 ·exact h
theorem mrgR_zero {l : List Crw} {a b : List Sg} (h : (mrgR l a b).2 = 0) : lchk l a = 0 ∧ lchk l b = 0 ∧ mrgR l a b = (setS (a ++ b), 0) := by
 by_cases ka : lchk l a = 0
 ·by_cases kb : lchk l b = 0
  ·have e : mrgR l a b = newR l (a ++ b) := by rw [mrgR, if_pos ka, if_pos kb]
   by_cases kv : verL l (a ++ b) = 0
   ·exact ⟨ka, kb, by rw [e, newR, if_pos kv]⟩
   ·rw [e, newR, if_neg kv] at h
    exact absurd h kv
  ·rw [mrgR, if_pos ka, if_neg kb] at h
   exact absurd h kb
 ·rw [mrgR, if_neg ka] at h
  exact absurd h ka
set_option maxHeartbeats 8000000 in
theorem law_more (l : List Crw) (a b : List Sg) (hl : ∀ c ∈ l, crOk c) (hn : l.length ≤ 10000000000000) (ha : ∀ p ∈ a, sgOk p) (hb : ∀ p ∈ b, sgOk p) (ua : ∀ p ∈ a, sgU p) (ub : ∀ p ∈ b, sgU p) (hna : a.length ≤ 1000000000000) (hnb : b.length ≤ 1000000000000) :
  Fn0 Tryz.prog 3 [crwD l, lgD a false, lgD b false] (.v (.bool true)) := by
 have h12 := fewC_ok l hl hn
 have hfa := few_ok a false ha (fun p hp => sgU_sgF (ua p hp)) hna
 have hfb := few_ok b false hb (fun p hp => sgU_sgF (ub p hp)) hnb
 refine Fun.of_wp (pn := noPn) Tryz.tab Tryz.func3 rfl fun β0 => ?_
 simp only [Tryz.f3]
 repeat(first|apply wG|(apply wR;simp -dsimp [crwD])|refine aI ?_)
 refine vcStop.call0 Tryz.body11 sane_ok rfl rfl (by simp) ?_
 simp -dsimp
 repeat(first|apply wG|(apply wR;simp -dsimp)|refine aI ?_)
 refine cF (by simp) ?_
 refine WP.skip ?_
 simp -dsimp
 repeat(first|apply wG|(apply wR;simp -dsimp)|refine aI ?_)
 refine vcStop.call0 Tryz.body12 h12 rfl rfl (by simp [crwD]) ?_
 cases hwc : fewC l with
 | false =>
  simp -dsimp
  repeat(first|apply wG|(apply wR;simp -dsimp)|refine aI ?_)
  refine vcStopG.skip (.d (.v (.bool false))) ?_
  simp -dsimp
  repeat(first|apply wG|(apply wR;simp -dsimp)|refine aI ?_)
  refine vcStopG.skip (.d (.v (.bool false))) ?_
  simp -dsimp
  repeat(first|apply wG|(apply wR;simp -dsimp)|refine aI ?_)
  refine cT (by simp) ?_
  repeat(first|apply wG|(apply wR;simp -dsimp)|refine aI ?_)
  refine WP.ret (finQ.retE ?_)
  simp -dsimp
 | true =>
  simp -dsimp
  repeat(first|apply wG|(apply wR;simp -dsimp)|refine aI ?_)
  refine vcStopG.call0L Tryz.body13 (fun _ => hfa) rfl (fun _ => rfl) (fun _ => And.intro (Leq.aggD [sgD a false]) trivial) ?_
  cases hwa : fewB a with
  | false =>
   simp -dsimp
   repeat(first|apply wG|(apply wR;simp -dsimp)|refine aI ?_)
   refine vcStopG.skip (.d (.v (.bool false))) ?_
   simp -dsimp
   repeat(first|apply wG|(apply wR;simp -dsimp)|refine aI ?_)
   refine cT (by simp) ?_
   repeat(first|apply wG|(apply wR;simp -dsimp)|refine aI ?_)
   refine WP.ret (finQ.retE ?_)
   simp -dsimp
  | true =>
   simp -dsimp
   repeat(first|apply wG|(apply wR;simp -dsimp)|refine aI ?_)
   refine vcStopG.call0L Tryz.body13 (fun _ => hfb) rfl (fun _ => rfl) (fun _ => And.intro (Leq.aggD [sgD b false]) trivial) ?_
   cases hwb : fewB b with
   | false =>
    simp -dsimp
    repeat(first|apply wG|(apply wR;simp -dsimp)|refine aI ?_)
    refine cT (by simp) ?_
    repeat(first|apply wG|(apply wR;simp -dsimp)|refine aI ?_)
    refine WP.ret (finQ.retE ?_)
    simp -dsimp
   | true =>
    have hl4 := fewC_4 hwc
    obtain ⟨hla, hnoa⟩ := few_ten hwa
    obtain ⟨hlb, hnob⟩ := few_ten hwb
    have ta := few_sgT hwa ua
    have tb := few_sgT hwb ub
    by_cases h33 : a.length ≤ 3 ∧ b.length ≤ 3
    ·have d1 : decide ((3 : Int) < (a.length : Int)) = false := by rw [decide_eq_false_iff_not]; omega
     have d2 : decide ((3 : Int) < (b.length : Int)) = false := by rw [decide_eq_false_iff_not]; omega
     have fta : ∀ p ∈ a, fOk p.1 ∧ sgT p := fun p hp => ⟨(ha p hp).1, ta p hp⟩
     have ftb : ∀ p ∈ b, fOk p.1 ∧ sgT p := fun p hp => ⟨(hb p hp).1, tb p hp⟩
     have hm := merge_ok l hl (by omega) a b fta ftb (by omega)
     simp -dsimp [d1, d2]
     repeat(first|apply wG|(apply wR;simp -dsimp [d1, d2])|refine aI ?_)
     refine cF (by simp [d1, d2]) ?_
     refine WP.skip ?_
     simp -dsimp
     repeat(first|apply wG|(apply wR;simp -dsimp)|refine aI ?_)
     by_cases he : (mrgR l a b).2 = 0
     ·obtain ⟨ka, kb, hX⟩ := mrgR_zero he
      rw [hX, lgR] at hm
      have hxs : ∀ p ∈ setS (a ++ b), p ∈ a ++ b := fun p hp => setS_sub hp
      have hxl := setS_len (a ++ b) []
      obtain ⟨kx, x1, x2⟩ := mrg_ok (fun p hp => (ha p hp).1) (fun p hp => (hb p hp).1) ka kb (by omega)
      rw [show (a ++ b).foldl (fun a s => insS s a) [] = setS (a ++ b) from rfl, List.length_append] at hxl
      simp only [List.length_nil, Nat.zero_add] at hxl
      generalize setS (a ++ b) = X at *
      have oX : ∀ p ∈ X, sgOk p := fun p hp => by
       rcases List.mem_append.1 (hxs p hp) with h | h
       ·exact ha p h
       ·exact hb p h
      have tX : ∀ p ∈ X, fOk p.1 ∧ sgT p := fun p hp => by
       rcases List.mem_append.1 (hxs p hp) with h | h
       ·exact fta p h
       ·exact ftb p h
      have nX : ∀ p ∈ X, p.1 1 ≤ 200 := fun p hp => by
       rcases List.mem_append.1 (hxs p hp) with h | h
       ·exact hnoa p h
       ·exact hnob p h
      have cA := ledgerCheck_ok l hl (by omega) a false fta hna
      have cB := ledgerCheck_ok l hl (by omega) b false ftb hnb
      have cX := ledgerCheck_ok l hl (by omega) X false tX (by omega)
      have qA := evCheck_ok (crwD l) a X false false _ _ cA cX (by omega) (by omega) ha oX nX
      have qB := evCheck_ok (crwD l) b X false false _ _ cB cX (by omega) (by omega) hb oX nX
      have sA : shwB a X = true := by rw [shwB, x1]; rfl
      have sB : shwB b X = true := by rw [shwB, x2]; rfl
      have vA : chkV (lchk l a) (lchk l X) a X = 0 := by rw [chkV, if_neg (by simp [ka]), if_neg (by simp [kx]), if_pos sA]
      have vB : chkV (lchk l b) (lchk l X) b X = 0 := by rw [chkV, if_neg (by simp [kb]), if_neg (by simp [kx]), if_pos sB]
      rw [vA] at qA
      rw [vB] at qB
      have zA := altered_ok a X false false (by omega) (by omega) ha oX
      have zB := altered_ok b X false false (by omega) (by omega) hb oX
      rw [x1] at zA
      rw [x2] at zB
      refine vcStop.call0L Tryz.body14 hm rfl rfl (And.intro (by simp [crwD]) (And.intro (Leq.aggD [sgD a false]) (And.intro (Leq.aggD [sgD b false]) trivial))) ?_
      simp -dsimp
      repeat(first|apply wG|(apply wR;simp -dsimp)|refine aI ?_)
      refine cF (by simp) ?_
      refine WP.skip ?_
      simp -dsimp
      repeat(first|apply wG|(apply wR;simp -dsimp)|refine aI ?_)
      refine vcStop.call0L Tryz.body15 zA rfl rfl (And.intro (Leq.aggD [sgD a false]) (And.intro (Leq.aggD [sgD X false]) trivial)) ?_
      simp -dsimp
      repeat(first|apply wG|(apply wR;simp -dsimp)|refine aI ?_)
      refine vcStopG.call0L Tryz.body15 (fun _ => zB) rfl (fun _ => rfl) (fun _ => And.intro (Leq.aggD [sgD b false]) (And.intro (Leq.aggD [sgD X false]) trivial)) ?_
      simp -dsimp
      repeat(first|apply wG|(apply wR;simp -dsimp)|refine aI ?_)
      refine vcStopG.call0L Tryz.body16 (fun _ => qA) rfl (fun _ => rfl) (fun _ => And.intro (by simp [crwD]) (And.intro (Leq.aggD [sgD a false]) (And.intro (Leq.aggD [sgD X false]) trivial))) ?_
      simp -dsimp
      repeat(first|apply wG|(apply wR;simp -dsimp)|refine aI ?_)
      refine vcStopG.call0L Tryz.body16 (fun _ => qB) rfl (fun _ => rfl) (fun _ => And.intro (by simp [crwD]) (And.intro (Leq.aggD [sgD b false]) (And.intro (Leq.aggD [sgD X false]) trivial))) ?_
      simp -dsimp
      repeat(first|apply wG|(apply wR;simp -dsimp)|refine aI ?_)
      refine WP.ret (finQ.retE ?_)
      simp -dsimp
     ·rw [lgR] at hm
      generalize mrgR l a b = R at *
      refine vcStop.call0L Tryz.body14 hm rfl rfl (And.intro (by simp [crwD]) (And.intro (Leq.aggD [sgD a false]) (And.intro (Leq.aggD [sgD b false]) trivial))) ?_
      simp -dsimp
      repeat(first|apply wG|(apply wR;simp -dsimp)|refine aI ?_)
      refine cT (by simp [he]) ?_
      repeat(first|apply wG|(apply wR;simp -dsimp)|refine aI ?_)
      refine WP.ret (finQ.retE ?_)
      simp -dsimp
    ·by_cases h3a : a.length ≤ 3
     ·have d1 : decide ((3 : Int) < (a.length : Int)) = false := by rw [decide_eq_false_iff_not]; omega
      have d2 : decide ((3 : Int) < (b.length : Int)) = true := by rw [decide_eq_true_iff]; omega
      simp -dsimp [d1, d2]
      repeat(first|apply wG|(apply wR;simp -dsimp [d1, d2])|refine aI ?_)
      refine cT (by simp [d1, d2]) ?_
      repeat(first|apply wG|(apply wR;simp -dsimp)|refine aI ?_)
      refine WP.ret (finQ.retE ?_)
      simp -dsimp
     ·have d1 : decide ((3 : Int) < (a.length : Int)) = true := by rw [decide_eq_true_iff]; omega
      simp -dsimp [d1]
      repeat(first|apply wG|(apply wR;simp -dsimp [d1])|refine aI ?_)
      refine cT (by simp [d1]) ?_
      repeat(first|apply wG|(apply wR;simp -dsimp)|refine aI ?_)
      refine WP.ret (finQ.retE ?_)
      simp -dsimp
end Go.Proofs.YtnljenjcaeophaaGreatDoor
