/-
  Joined texts.
-/
import Derived.Test.YtnljenjcaeophaaGreatDoorWM
import Derived.Test.YtnljenjcaeophaaGreatDoorWAB
import Derived.Test.YtnljenjcaeophaaGreatDoorWC
set_option maxRecDepth 10000
set_option maxHeartbeats 4000000
set_option linter.unusedVariables false
set_option linter.unusedSimpArgs false
set_option linter.unusedSectionVars false
namespace Go.Proofs.YtnljenjcaeophaaGreatDoor
open Go.Xe Go.RowKit
def vfyL (l : List Crw) : List Sg → Int
 | [] => 0
 | p :: x => if i2_ l p = 0 then vfyL l x else i2_ l p
def qp_ (l : List Crw) (x : List Sg) : Int := if crB l = true then vfyL l x else 130
def nJ_ : List Sg → Bool
 | [] => true
 | [_] => true
 | a :: b :: l => decide (aE_ a.1 b.1 < 0) && nJ_ (b :: l)
def gh_ (l : List Crw) (x : List Sg) : Int :=
 if crB l = true then
  if 65536 < x.length then 2
  else if qp_ l x = 0 then (if nJ_ x = true then 0 else 140) else qp_ l x
 else 130
theorem jA_ (l : List Crw) : ∀ x : List Sg, vfyL l x = 0 ↔ ∀ p ∈ x, i2_ l p = 0
 | [] => by simp [vfyL]
 | p :: x => by
  rw [vfyL]
  by_cases h : i2_ l p = 0
  ·rw [if_pos h, jA_ l x]
   simp [h]
  ·rw [if_neg h]
   simp [h]
theorem fk_ {l : List Crw} {x : List Sg} (h : gh_ l x = 0) : crB l = true ∧ x.length ≤ 65536 ∧ (∀ p ∈ x, i2_ l p = 0) ∧ nJ_ x = true := by
 unfold gh_ at h
 split at h
 ·rename_i h1
  split at h
  ·cases h
  ·rename_i h2
   split at h
   ·rename_i h3
    rw [qp_, if_pos h1, jA_] at h3
    split at h
    ·rename_i h4
     exact ⟨h1, by omega, h3, h4⟩
    ·cases h
   ·rename_i h3
    exact absurd h h3
 ·cases h
def setS (l : List Sg) : List Sg := l.foldl (fun a s => insS s a) []
theorem qK_ : ∀ (l a : List Sg), (∀ s ∈ l, m1_ s) → (∀ s ∈ a, m1_ s) → wE_ a →
  wE_ (l.foldl (fun a s => insS s a) a) ∧ (∀ t ∈ l.foldl (fun a s => insS s a) a, t ∈ a ∨ t ∈ l) ∧ (∀ t, t ∈ a ∨ t ∈ l → ∃ u ∈ l.foldl (fun a s => insS s a) a, u.1 = t.1)
 | [], a, _, _, h => ⟨h, fun t ht => .inl ht, fun t ht => by
   rcases ht with ht | ht
   ·exact ⟨t, ht, rfl⟩
   ·cases ht⟩
 | s :: l, a, hl, ha, h => by
  obtain ⟨i1, i2⟩ := rw_ (hl s (by simp)) ha h
  have ha2 : ∀ t ∈ insS s a, m1_ t := fun t ht => by
   rcases (i2 t).1 ht with h | ⟨rfl, _⟩
   ·exact ha t h
   ·exact hl t (by simp)
  obtain ⟨k1, k2, k3⟩ := qK_ l (insS s a) (fun t ht => hl t (by simp [ht])) ha2 i1
  rw [List.foldl_cons]
  refine ⟨k1, fun t ht => ?_, fun t ht => ?_⟩
  ·rcases k2 t ht with h | h
   ·rcases (i2 t).1 h with h | ⟨rfl, _⟩
    ·exact .inl h
    ·exact .inr (by simp)
   ·exact .inr (by simp [h])
  ·have key : ∀ t, t ∈ a ∨ t = s → ∃ u ∈ insS s a, u.1 = t.1 := fun t ht => by
    rcases ht with ht | rfl
    ·exact ⟨t, (i2 t).2 (.inl ht), rfl⟩
    ·by_cases e : ∃ u ∈ a, u.1 = t.1
     ·obtain ⟨u, hu, hue⟩ := e
      exact ⟨u, (i2 u).2 (.inl hu), hue⟩
     ·exact ⟨t, (i2 t).2 (.inr ⟨rfl, fun u hu hue => e ⟨u, hu, hue⟩⟩), rfl⟩
   have go : ∀ t, t ∈ a ∨ t = s → ∃ u ∈ l.foldl (fun a s => insS s a) (insS s a), u.1 = t.1 := fun t ht => by
    obtain ⟨u, hu, hue⟩ := key t ht
    obtain ⟨w, hw, hwe⟩ := k3 u (.inl hu)
    exact ⟨w, hw, hwe.trans hue⟩
   rcases ht with ht | ht
   ·exact go t (.inl ht)
   ·rcases List.mem_cons.1 ht with rfl | ht
    ·exact go t (.inr rfl)
    ·exact k3 t (.inr ht)
theorem hi_ : ∀ (l a : List Sg), (l.foldl (fun a s => insS s a) a).length ≤ a.length + l.length
 | [], a => by simp
 | s :: l, a => by
  have ins : ∀ a : List Sg, (insS s a).length ≤ a.length + 1 := fun a => by
   induction a with
   | nil => simp [insS]
   | cons t a ih =>
    rw [insS]
    split
    ·simp; omega
    ·split <;> simp
  have h1 := hi_ l (insS s a)
  have h2 := ins a
  rw [List.foldl_cons, List.length_cons]
  omega
theorem h2_ (p q : Sg) (hp : sgOk p) (hq : sgOk q) : Fn0 Tryz.prog 59 [sgV p, sgV q] (.v (.int .i64 (aE_ p.1 q.1))) := by
 have h1 := e1_ p
 have h2 := e1_ q
 have l1 := az_ hp
 have l2 := az_ hq
 have hc := cj_ p.1 q.1 hp.1 hq.1
 refine ac_ (pn := ap_) aa_ Tryz.func59 rfl fun β0 => ?_
 simp only [Tryz.f59]
 simp only [sgV]
 repeat(first|apply wG|(apply wR;simp -dsimp [h1, h2, l1, l2])|refine aI ?_)
 refine And.intro (sgc_oneD hp) ?_
 refine And.intro (sgc_oneD hq) ?_
 repeat(first|apply wG|(apply wR;simp -dsimp [h1, h2, l1, l2])|refine aI ?_)
 refine ad_ eO_ hc rfl rfl (by simp [fD]) ?_
 simp -dsimp
 repeat(first|apply wG|(apply wR;simp -dsimp)|refine aI ?_)
 refine WP.ret (ab_ ?_)
 simp -dsimp
abbrev vlS (l : List Crw) (x : List Sg) (b : Bool) (i : Nat) : St := mkS 27 [(0, .d (crwD l)), (14, .d (sgD x b)), (15, .d (.v (.int .i64 x.length))), (16, .d (.v (.int .i64 i)))] []
theorem i3_ (l : List Crw) (hl : ∀ c ∈ l, ec_ c) (hn : l.length ≤ 1000000000000) (x : List Sg) (b : Bool) (hx : ∀ p ∈ x, fOk p.1 ∧ sgT p) (hxn : x.length ≤ 1000000000000) : Fn0 Tryz.prog 57 [crwD l, sgD x b] (.v (.int .i64 (qp_ l x))) := by
 have h53 := db_ l hl hn
 refine ac_ (pn := ap_) aa_ Tryz.func57 rfl fun β0 => ?_
 simp only [Tryz.f57]
 repeat(first|apply wG|(apply wR;simp -dsimp [crwD])|refine aI ?_)
 refine ad_ bl_ h53 rfl rfl (by simp [crwD]) ?_
 simp -dsimp
 repeat(first|apply wG|(apply wR;simp -dsimp)|refine aI ?_)
 rw [qp_]
 by_cases hc : crB l = true
 ·rw [if_pos hc]
  refine cF (by simp [hc]) ?_
  refine WP.skip ?_
  simp -dsimp
  repeat(first|apply wG|(apply wR;simp -dsimp)|refine aI ?_)
  refine ak_ (fun m S => ∃ x1 x2, x = x1 ++ x2 ∧ m = x2.length ∧ vfyL l x = vfyL l x2 ∧ S = vlS l x b x1.length) x.length (S0 := vlS l x b 0) (ae_ [] (by simp [crwD]) (by simp)) ⟨[], x, rfl, rfl, rfl, rfl⟩ ?_
  rintro _ _ ⟨x1, x2, hx12, rfl, hv, rfl⟩
  simp -dsimp [crwD]
  repeat(first|apply wG|(apply wR;simp -dsimp)|refine aI ?_)
  rw [hv]
  cases x2 with
  | nil =>
   simp only [List.append_nil] at hx12
   subst hx12
   refine cF (by simp) ?_
   refine WP.exit ?_
   simp -dsimp
   repeat(first|apply wG|(apply wR;simp -dsimp)|refine aI ?_)
   refine WP.ret (ab_ ?_)
   simp -dsimp [vfyL]
  | cons p x2 =>
   have hll : x.length = x1.length + (x2.length + 1) := by rw [hx12]; simp
   have hlt : x1.length < x.length := by omega
   have hp := hx p (by rw [hx12]; simp)
   have hpo := be_ hp.1 hp.2
   have hxo : ∀ q ∈ x, sgOk q := fun q hq => be_ (hx q hq).1 (hx q hq).2
   have hat := cL_ hlt hxo
   have hpe : x[x1.length] = p := by simp [hx12]
   rw [hpe] at hat
   have lc := sgC_len hxo
   have lp := az_ hpo
   have tp := e0_ hpo
   have tm := bV_ hpo
   have hver := bZ_ l hl hn p hp.1 hp.2
   have e1 : IntKind.i64.wrap ((x1.length : Int) + 1) = (x1.length : Int) + 1 := IntWalk.i64_in _ (by omega)
   refine cT (by simp; omega) ?_
   refine WP.skip ?_
   simp -dsimp
   repeat(first|apply wG|(apply wR;simp -dsimp [hat, lp, tp, tm])|refine aI ?_)
   refine And.intro (fun a h => sgc_oneD hpo a h) ?_
   repeat(first|apply wG|(apply wR;simp -dsimp [lp, tp, tm])|refine aI ?_)
   refine ag_ cq_ hver rfl rfl (And.intro (by simp [crwD]) (And.intro (by simp [tm]; try exact ai_ _) trivial)) ?_
   simp -dsimp
   repeat(first|apply wG|(apply wR;simp -dsimp)|refine aI ?_)
   rw [vfyL]
   by_cases hz : i2_ l p = 0
   ·rw [if_pos hz]
    refine cF (by simp [hz]) ?_
    refine WP.skip ?_
    simp -dsimp
    repeat(first|apply wG|(apply wR;simp -dsimp)|refine aI ?_)
    refine ah_ (vlS l x b (x1 ++ [p]).length) (ae_ [] (by simp [crwD, e1]) (by simp)) x2.length (by simp) ⟨x1 ++ [p], x2, by simp [hx12], rfl, by first | rfl | simp [vfyL, hz], rfl⟩
   ·rw [if_neg hz]
    refine cT (by simp [hz]) ?_
    repeat(first|apply wG|(apply wR;simp -dsimp)|refine aI ?_)
    refine WP.ret (ab_ ?_)
    simp -dsimp
 ·rw [if_neg hc]
  refine cT (by simp [hc]) ?_
  repeat(first|apply wG|(apply wR;simp -dsimp)|refine aI ?_)
  refine WP.ret (ab_ ?_)
  simp -dsimp [hc]
theorem st_ {x : List Sg} {i : Nat} (h1 : 1 ≤ i) (h : i < x.length) : nJ_ (x.drop (i - 1)) = (decide (aE_ (x[i - 1]'(by omega)).1 x[i].1 < 0) && nJ_ (x.drop i)) := by
 rw [List.drop_eq_getElem_cons (by omega : i - 1 < x.length), show i - 1 + 1 = i by omega, List.drop_eq_getElem_cons h, nJ_]
theorem ju_ {x : List Sg} {i : Nat} (h : x.length ≤ i) : nJ_ (x.drop (i - 1)) = true := by
 cases e : x.drop (i - 1) with
 | nil => rfl
 | cons a l =>
  have hl := congrArg List.length e
  rw [List.length_drop, List.length_cons] at hl
  have : l = [] := List.eq_nil_of_length_eq_zero (by omega)
  subst this
  rfl
abbrev lcS (x : List Sg) (b : Bool) (i : Nat) : St := mkS 44 [(3, .ptr 3 0), (7, .d (.v (.int .i64 i)))] [(3, .cells 25 [.d (sgD x b)])]
theorem bj_ (l : List Crw) (hl : ∀ c ∈ l, ec_ c) (hn : l.length ≤ 1000000000000) (x : List Sg) (b : Bool) (hx : ∀ p ∈ x, fOk p.1 ∧ sgT p) (hxn : x.length ≤ 1000000000000) : Fn0 Tryz.prog 21 [crwD l, lgD x b] (.v (.int .i64 (gh_ l x))) := by
 have h53 := db_ l hl hn
 have h54 := i3_ l hl hn x b hx hxn
 have w1 : IntKind.i64.wrap 1 = 1 := by decide
 refine ac_ (pn := ap_) aa_ Tryz.func21 rfl fun β0 => ?_
 simp only [Tryz.f21]
 repeat(first|apply wG|(apply wR;simp -dsimp [crwD])|refine aI ?_)
 refine ad_ bl_ h53 rfl rfl (by simp [crwD]) ?_
 simp -dsimp
 repeat(first|apply wG|(apply wR;simp -dsimp)|refine aI ?_)
 rw [gh_]
 by_cases hc : crB l = true
 ·rw [if_pos hc]
  refine cF (by simp [hc]) ?_
  refine WP.skip ?_
  simp -dsimp
  repeat(first|apply wG|(apply wR;simp -dsimp)|refine aI ?_)
  by_cases hb : 65536 < x.length
  ·rw [if_pos hb]
   refine cT (by simp; omega) ?_
   repeat(first|apply wG|(apply wR;simp -dsimp)|refine aI ?_)
   refine WP.ret (ab_ ?_)
   simp -dsimp
  ·rw [if_neg hb]
   refine cF (by simp; omega) ?_
   refine WP.skip ?_
   simp -dsimp
   repeat(first|apply wG|(apply wR;simp -dsimp [crwD])|refine aI ?_)
   refine ag_ di_ h54 rfl rfl (And.intro (by simp [crwD]) (And.intro (.refl _) trivial)) ?_
   simp -dsimp
   repeat(first|apply wG|(apply wR;simp -dsimp)|refine aI ?_)
   by_cases hv : qp_ l x = 0
   ·rw [if_pos hv]
    refine cF (by simp [hv]) ?_
    refine WP.skip ?_
    simp -dsimp
    repeat(first|apply wG|(apply wR;simp -dsimp)|refine aI ?_)
    refine ak_ (fun m S => ∃ i : Nat, 1 ≤ i ∧ m = x.length - i ∧ i ≤ max 1 x.length ∧ nJ_ x = nJ_ (x.drop (i - 1)) ∧ S = lcS x b i) (x.length - 1) (S0 := lcS x b 1) (ae_ [] (by simp) (by simp)) ⟨1, Nat.le_refl _, rfl, by omega, rfl, rfl⟩ ?_
    rintro _ _ ⟨i, hi1, rfl, hi2, ha, rfl⟩
    rw [ha]
    simp -dsimp
    repeat(first|apply wG|(apply wR;simp -dsimp)|refine aI ?_)
    by_cases hil : i < x.length
    ·have hxo : ∀ q ∈ x, sgOk q := fun q hq => be_ (hx q hq).1 (hx q hq).2
     have has := st_ hi1 hil
     have a0 := cL_ (i := i - 1) (by omega) hxo
     have a1 := cL_ hil hxo
     have o0 := hxo _ (List.getElem_mem (by omega : i - 1 < x.length))
     have o1 := hxo _ (List.getElem_mem hil)
     generalize x[i - 1]'(by omega) = p at *
     generalize x[i] = q at *
     have lc := sgC_len hxo
     have lp := az_ o0
     have lq := az_ o1
     have tp := e0_ o0
     have tq := e0_ o1
     have mp := bV_ o0
     have mq := bV_ o1
     have e1 : IntKind.i64.wrap ((i : Int) + 1) = ((i + 1 : Nat) : Int) := by rw [IntWalk.i64_in _ (by omega)]; omega
     have e2 : IntKind.i64.wrap ((i : Int) - 1) = ((i - 1 : Nat) : Int) := by rw [IntWalk.i64_in _ (by omega)]; omega
     have hcm := h2_ p q o0 o1
     refine cT (by simp; omega) ?_
     refine WP.skip ?_
     simp -dsimp
     repeat(first|apply wG|(apply wR;simp -dsimp [e2, a0, a1, tp, tq, lp, lq])|refine aI ?_)
     refine ag_ cn_ hcm rfl rfl (And.intro (by simp [mp, tp, sgV]; try exact ai_ _) (And.intro (by simp [mq, tq, sgV]; try exact ai_ _) trivial)) ?_
     simp -dsimp
     repeat(first|apply wG|(apply wR;simp -dsimp)|refine aI ?_)
     rw [has]
     by_cases hz : aE_ p.1 q.1 < 0
     ·refine cF (by simp; omega) ?_
      refine WP.skip ?_
      simp -dsimp
      repeat(first|apply wG|(apply wR;simp -dsimp)|refine aI ?_)
      have hd : decide (aE_ p.1 q.1 < 0) = true := decide_eq_true hz
      refine ah_ (lcS x b (i + 1)) (ae_ [] (by simp [e1]) (by simp)) (x.length - (i + 1)) (by omega) ⟨i + 1, by omega, rfl, by omega, by rw [hd]; simp, rfl⟩
     ·have hd : decide (aE_ p.1 q.1 < 0) = false := decide_eq_false hz
      refine cT (by simp; omega) ?_
      repeat(first|apply wG|(apply wR;simp -dsimp)|refine aI ?_)
      refine WP.ret (ab_ ?_)
      simp -dsimp [hd]
    ·rw [ju_ (by omega)]
     refine cF (by simp; omega) ?_
     refine WP.exit ?_
     simp -dsimp
     repeat(first|apply wG|(apply wR;simp -dsimp)|refine aI ?_)
     refine WP.ret (ab_ ?_)
     simp -dsimp
   ·rw [if_neg hv]
    refine cT (by simp [hv]) ?_
    repeat(first|apply wG|(apply wR;simp -dsimp)|refine aI ?_)
    refine WP.ret (ab_ ?_)
    simp -dsimp
 ·rw [if_neg hc]
  refine cT (by simp [hc]) ?_
  repeat(first|apply wG|(apply wR;simp -dsimp)|refine aI ?_)
  refine WP.ret (ab_ ?_)
  simp -dsimp [hc]
def sg0 : Sg := (f0, zs)
def sat (M : List Sg) (j : Nat) : Sg := M.getD j sg0
def lwS (M : List Sg) (j : Nat) : Bool := decide (aE_ (sat M j).1 (sat M (j - 1)).1 < 0)
def swS (M : List Sg) (j : Nat) : List Sg := (M.set j (sat M (j - 1))).set (j - 1) (sat M j)
def mT_ : Nat → List Sg → List Sg
 | 0, M => M
 | j + 1, M => if lwS M (j + 1) = true then mT_ j (swS M (j + 1)) else M
def outS : Nat → List Sg → List Sg
 | 0, M => M
 | i + 1, M => mT_ i (outS i M)
def mS_ (M : List Sg) : List Sg := outS (max 1 M.length) M
theorem swS_len (M : List Sg) (j : Nat) : (swS M j).length = M.length := by simp [swS]
theorem oG_ : ∀ (j : Nat) (M : List Sg), (mT_ j M).length = M.length
 | 0, M => rfl
 | j + 1, M => by
  rw [mT_]
  split
  ·rw [oG_, swS_len]
  ·rfl
theorem fc_ : ∀ (i : Nat) (M : List Sg), (outS i M).length = M.length
 | 0, M => rfl
 | i + 1, M => by rw [outS, oG_, fc_]
theorem tA_ (M : List Sg) : (mS_ M).length = M.length := fc_ _ _
theorem vd_ (A R : List Sg) (a x : Sg) : swS ((A ++ [a]) ++ x :: R) (A.length + 1) = A ++ x :: a :: R := by
 have h1 : sat ((A ++ [a]) ++ x :: R) (A.length + 1) = x := by simp [sat]
 have h2 : sat ((A ++ [a]) ++ x :: R) A.length = a := by simp [sat]
 rw [swS, h1, Nat.add_sub_cancel, h2]
 simp
theorem vP_ (A R : List Sg) (a x : Sg) : lwS ((A ++ [a]) ++ x :: R) (A.length + 1) = decide (aE_ x.1 a.1 < 0) := by
 have h1 : sat ((A ++ [a]) ++ x :: R) (A.length + 1) = x := by simp [sat]
 have h2 : sat ((A ++ [a]) ++ x :: R) A.length = a := by simp [sat]
 rw [lwS, h1, Nat.add_sub_cancel, h2]
def fZ_ (x : Sg) : List Sg → List Sg
 | [] => [x]
 | a :: A => if aE_ x.1 a.1 < 0 then x :: a :: A else a :: fZ_ x A
abbrev WkS (l : List Sg) : Prop := l.Pairwise fun a b => aE_ a.1 b.1 ≤ 0
theorem lV_ {a b c : F} (h : aE_ a b < 0) (k : aE_ b c ≤ 0) : aE_ a c < 0 := by
 by_cases e : aE_ b c = 0
 ·have h1 := cmp_fact.same b c a e
  have h2 := cmp_fact.anti b a
  have h3 := cmp_fact.anti c a
  omega
 ·exact bL_ h (by omega)
theorem ly_ (x a : Sg) : ∀ A : List Sg, WkS (A ++ [a]) → fZ_ x (A ++ [a]) = if aE_ x.1 a.1 < 0 then fZ_ x A ++ [a] else A ++ [a, x]
 | [], _ => by
  simp only [List.nil_append, fZ_]
  split <;> rfl
 | b :: A, h => by
  obtain ⟨h1, h2⟩ := List.pairwise_cons.1 h
  have ih := ly_ x a A h2
  rw [List.cons_append, fZ_]
  by_cases hb : aE_ x.1 b.1 < 0
  ·rw [if_pos hb, if_pos (lV_ hb (h1 a (by simp))), fZ_, if_pos hb]
   rfl
  ·rw [if_neg hb, ih]
   by_cases ha : aE_ x.1 a.1 < 0
   ·rw [if_pos ha, if_pos ha, fZ_, if_neg hb]
    rfl
   ·rw [if_neg ha, if_neg ha]
    rfl
theorem insE_in {x : Sg} : ∀ {A : List Sg} {t : Sg}, t ∈ fZ_ x A ↔ t = x ∨ t ∈ A
 | [], t => by simp [fZ_]
 | a :: A, t => by
  rw [fZ_]
  split
  ·simp
  ·rw [List.mem_cons, insE_in (A := A), List.mem_cons]
   constructor
   ·rintro (h | h | h)
    ·exact .inr (.inl h)
    ·exact .inl h
    ·exact .inr (.inr h)
   ·rintro (h | h | h)
    ·exact .inr (.inl h)
    ·exact .inl h
    ·exact .inr (.inr h)
theorem nt_ (x : Sg) : ∀ {A : List Sg}, WkS A → WkS (fZ_ x A)
 | [], _ => by simp [fZ_]
 | a :: A, h => by
  obtain ⟨h1, h2⟩ := List.pairwise_cons.1 h
  rw [fZ_]
  split
  ·rename_i hx
   refine List.pairwise_cons.2 ⟨fun t ht => ?_, h⟩
   rcases List.mem_cons.1 ht with rfl | ht
   ·omega
   ·have := lV_ hx (h1 t ht); omega
  ·rename_i hx
   refine List.pairwise_cons.2 ⟨fun t ht => ?_, nt_ x h2⟩
   rcases insE_in.1 ht with rfl | ht
   ·have := cmp_fact.anti t.1 a.1; omega
   ·exact h1 t ht
theorem oF_ (x : Sg) : ∀ A : List Sg, (fZ_ x A).length = A.length + 1
 | [] => rfl
 | a :: A => by
  rw [fZ_]
  split
  ·rfl
  ·rw [List.length_cons, oF_ x A, List.length_cons]
theorem rA_ : ∀ (j : Nat) (A R : List Sg) (x : Sg), A.length = j → WkS A → mT_ j (A ++ x :: R) = fZ_ x A ++ R
 | 0, A, R, x, hl, _ => by
  have : A = [] := List.eq_nil_of_length_eq_zero hl
  subst this
  rfl
 | j + 1, A, R, x, hl, hs => by
  rcases List.eq_nil_or_concat A with rfl | ⟨B, a, rfl⟩
  ·cases hl
  ·rw [List.concat_eq_append] at hl hs ⊢
   have hb : B.length = j := by simpa using hl
   subst hb
   rw [mT_, vP_, vd_, ly_ x a B hs]
   obtain ⟨h1, h2, h3⟩ := List.pairwise_append.1 hs
   by_cases hx : aE_ x.1 a.1 < 0
   ·rw [if_pos (by simp [hx]), if_pos hx, rA_ B.length B (a :: R) x rfl h1]
    simp
   ·rw [if_neg (by simp [hx]), if_neg hx]
    simp
def kI_ (l a : List Sg) : List Sg := l.foldl (fun a s => fZ_ s a) a
theorem oj_ : ∀ (l a : List Sg), (kI_ l a).length = a.length + l.length
 | [], a => rfl
 | s :: l, a => by
  have h := oj_ l (fZ_ s a)
  rw [oF_] at h
  rw [kI_, List.foldl_cons, ← kI_, h, List.length_cons]
  omega
theorem qA_ : ∀ (l : List Sg) {a : List Sg}, WkS a → WkS (kI_ l a)
 | [], _, h => h
 | s :: l, _, h => qA_ l (nt_ s h)
theorem qC_ : ∀ {l a : List Sg} {t : Sg}, t ∈ kI_ l a ↔ t ∈ l ∨ t ∈ a
 | [], a, t => by simp [kI_]
 | s :: l, a, t => by
  rw [kI_, List.foldl_cons, ← kI_, qC_ (l := l), insE_in, List.mem_cons]
  constructor
  ·rintro (h | h | h)
   ·exact .inl (.inr h)
   ·exact .inl (.inl h)
   ·exact .inr h
  ·rintro ((h | h) | h)
   ·exact .inr (.inl h)
   ·exact .inl h
   ·exact .inr (.inr h)
theorem qB_ (l : List Sg) (x : Sg) (a : List Sg) : kI_ (l ++ [x]) a = fZ_ x (kI_ l a) := by rw [kI_, List.foldl_append]; rfl
theorem rd_ (M : List Sg) : ∀ i, i ≤ M.length → outS i M = kI_ (M.take i) [] ++ M.drop i
 | 0, _ => by simp [outS, kI_]
 | i + 1, hi => by
  have e := rd_ M i (by omega)
  have hl : (kI_ (M.take i) []).length = i := by rw [oj_]; simp; omega
  rw [outS, e, List.drop_eq_getElem_cons (by omega : i < M.length), rA_ i _ _ _ hl (qA_ _ List.Pairwise.nil), List.take_add_one, List.getElem?_eq_getElem (by omega : i < M.length)]
  rw [show M.take i ++ (some M[i]).toList = M.take i ++ [M[i]] from rfl, qB_]
theorem ru_ (M : List Sg) : mS_ M = kI_ M [] := by
 rcases Nat.eq_zero_or_pos M.length with h | h
 ·have : M = [] := List.eq_nil_of_length_eq_zero h
  subst this
  rfl
 ·rw [mS_, Nat.max_eq_right h, rd_ M M.length (Nat.le_refl _)]
  simp
def cpF (p : Sg) : List Sg → List Sg
 | [] => []
 | x :: l => if aE_ x.1 p.1 = 0 then cpF x l else x :: cpF x l
def cpS : List Sg → List Sg
 | [] => []
 | x :: l => x :: cpF x l
theorem r4_ : ∀ (A : List Sg) (p s : Sg), WkS (p :: A) → aE_ s.1 p.1 = 0 → cpF p (fZ_ s A) = cpF p A
 | [], p, s, _, h => by simp [fZ_, cpF, h]
 | a :: A, p, s, hw, h => by
  obtain ⟨h1, h2⟩ := List.pairwise_cons.1 hw
  have e := cmp_fact.same s.1 p.1 a.1 h
  have hpa := h1 a (by simp)
  have a1 := cmp_fact.anti a.1 s.1
  have a2 := cmp_fact.anti a.1 p.1
  rw [fZ_]
  by_cases hs : aE_ s.1 a.1 < 0
  ·rw [if_pos hs, cpF, if_pos h, cpF, if_neg (by omega), cpF, if_neg (by omega)]
  ·rw [if_neg hs, cpF, if_pos (by omega), cpF, if_pos (by omega)]
   exact r4_ A a s h2 (by omega)
theorem r3_ : ∀ (A : List Sg) (p s : Sg), WkS (p :: A) → aE_ p.1 s.1 < 0 → cpF p (fZ_ s A) = insS s (cpF p A)
 | [], p, s, _, h => by
  have a1 := cmp_fact.anti p.1 s.1
  have h2 : ¬ aE_ s.1 p.1 = 0 := by omega
  simp [fZ_, cpF, insS, h2]
 | a :: A, p, s, hw, h => by
  obtain ⟨h1, h2⟩ := List.pairwise_cons.1 hw
  have hpa := h1 a (by simp)
  have a0 := cmp_fact.anti p.1 s.1
  have a1 := cmp_fact.anti a.1 s.1
  have a2 := cmp_fact.anti a.1 p.1
  rw [fZ_]
  by_cases hs : aE_ s.1 a.1 < 0
  ·have hps : aE_ p.1 a.1 < 0 := bL_ h hs
   rw [if_pos hs, cpF, if_neg (by omega), cpF, if_neg (by omega), cpF, if_neg (by omega), insS, if_neg (by omega), if_neg (by omega)]
  ·rw [if_neg hs, cpF, cpF]
   by_cases hap : aE_ a.1 p.1 = 0
   ·have e := cmp_fact.same a.1 p.1 s.1 hap
    rw [if_pos hap, if_pos hap]
    exact r3_ A a s h2 (by omega)
   ·rw [if_neg hap, if_neg hap]
    by_cases hz : aE_ s.1 a.1 = 0
    ·rw [r4_ A a s h2 hz, insS, if_neg (by omega), if_pos (by omega)]
    ·rw [r3_ A a s h2 (by omega), insS, if_pos (by omega)]
theorem yc_ (s : Sg) : ∀ A : List Sg, WkS A → cpS (fZ_ s A) = insS s (cpS A)
 | [], _ => rfl
 | a :: A, hw => by
  have a1 := cmp_fact.anti a.1 s.1
  rw [fZ_]
  by_cases hs : aE_ s.1 a.1 < 0
  ·rw [if_pos hs, cpS, cpF, if_neg (by omega), cpS, insS, if_neg (by omega), if_neg (by omega)]
  ·rw [if_neg hs, cpS, cpS]
   by_cases hz : aE_ s.1 a.1 = 0
   ·rw [r4_ A a s hw hz, insS, if_neg (by omega), if_pos (by omega)]
   ·rw [r3_ A a s hw (by omega), insS, if_pos (by omega)]
theorem uQ_ : ∀ (l a : List Sg), WkS a → cpS (kI_ l a) = l.foldl (fun a s => insS s a) (cpS a)
 | [], a, _ => rfl
 | s :: l, a, h => by
  rw [kI_, List.foldl_cons, ← kI_, uQ_ l _ (nt_ s h), yc_ s a h, List.foldl_cons]
theorem yb_ (l : List Sg) : cpS (mS_ l) = setS l := by rw [ru_, uQ_ l [] List.Pairwise.nil]; rfl
def cNS (l : List Sg) : Nat → List Sg
 | 0 => []
 | k + 1 => cNS l k ++ if k = 0 ∨ aE_ (sat l k).1 (sat l (k - 1)).1 ≠ 0 then [sat l k] else []
theorem o0_ : ∀ (l : List Sg) (p x : Sg), cpF p (l ++ [x]) = cpF p l ++ if aE_ x.1 (l.getLastD p).1 = 0 then [] else [x]
 | [], p, x => by
  rw [List.nil_append, cpF]
  split <;> simp_all [cpF]
 | y :: l, p, x => by
  have ih := o0_ l y x
  rw [List.cons_append, cpF, cpF, List.getLastD_cons]
  split
  ·exact ih
  ·rw [ih, List.cons_append]
theorem uS_ (l : List Sg) : ∀ k, k ≤ l.length → cNS l k = cpS (l.take k)
 | 0, _ => by simp [cNS, cpS]
 | k + 1, hk => by
  have hk1 : k < l.length := by omega
  have e : l.take (k + 1) = l.take k ++ [sat l k] := by
   rw [List.take_add_one, List.getElem?_eq_getElem hk1, sat, List.getD_eq_getElem?_getD, List.getElem?_eq_getElem hk1]; rfl
  rw [cNS, uS_ l k (by omega), e]
  rcases Nat.eq_zero_or_pos k with rfl | h0
  ·simp [cpS, cpF]
  ·cases hl : l.take k with
   | nil =>
    have := congrArg List.length hl
    rw [List.length_take, List.length_nil] at this
    omega
   | cons y m =>
    have hm : m.length + 1 = k := by
     have := congrArg List.length hl
     rw [List.length_take, List.length_cons] at this
     omega
    have hlast : m.getLastD y = sat l (k - 1) := by
     have h1 : (y :: m).getLast? = some (m.getLastD y) := by
      cases m with
      | nil => rfl
      | cons z m => simp [List.getLast?_cons, List.getLastD_eq_getLast?]
     rw [← hl, List.getLast?_take, if_neg (by omega), List.getElem?_eq_getElem (by omega : k - 1 < l.length)] at h1
     have h2 := Option.some.inj h1
     rw [sat, List.getD_eq_getElem?_getD, List.getElem?_eq_getElem (by omega : k - 1 < l.length), ← h2]
     rfl
    rw [List.cons_append, cpS, cpS, o0_, hlast, List.cons_append]
    congr 2
    by_cases hz : aE_ (sat l k).1 (sat l (k - 1)).1 = 0
    ·rw [if_neg (by rintro (h | h); omega; exact h hz), if_pos hz]
    ·rw [if_pos (.inr hz), if_neg hz]
def cmptS (l : List Sg) : List Sg := cNS l l.length
theorem se_ (l : List Sg) : cmptS (mS_ l) = setS l := by
 rw [cmptS, uS_ _ _ (Nat.le_refl _), List.take_length, yb_]
end Go.Proofs.YtnljenjcaeophaaGreatDoor
