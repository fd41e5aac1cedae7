/-
  Joined texts.
-/
import Derived.Test.YtnljenjcaeophaaGreatDoorWW
import Derived.Test.YtnljenjcaeophaaGreatDoorWB
import Derived.Test.YtnljenjcaeophaaGreatDoorWZ
import Derived.Test.YtnljenjcaeophaaGreatDoorWJ
set_option maxRecDepth 10000
set_option maxHeartbeats 4000000
set_option linter.unusedVariables false
set_option linter.unusedSimpArgs false
set_option linter.unusedSectionVars false
namespace Go.Proofs.YtnljenjcaeophaaGreatDoor
open Go.Xe Go.RowKit
theorem iD_ {l : List Sg} {f : F} : f ∈ vF l ↔ (∃ p ∈ l, p.1 = f) ∧ (numF f).2 = true := by
 simp only [vF, List.mem_filter, List.mem_map]
theorem aQ_ {l : List Sg} (hv : ∀ p ∈ l, sgOk p) : (∀ f, f ∈ valL l ↔ f ∈ vF l) ∧ (valL l).Pairwise (fun a b => aE_ a b < 0) ∧ (valL l).length ≤ l.length ∧ ∀ f ∈ valL l, vOk f := by
 have hvo : ∀ f ∈ vF l, vOk f := fun f hf => by
  obtain ⟨⟨p, hp, rfl⟩, h⟩ := iD_.1 hf
  exact ⟨(hv p hp).1, h⟩
 have hk := np_ fun f hf => (hvo f hf).1
 obtain ⟨hp, hs⟩ := vZ_ vc_ ((vF l).map kOf)
 have hL : ((er_ ((vF l).map kOf)).map (·.1)).Perm (vF l) := by
  have := hp.map (·.1)
  rw [hk] at this
  exact this
 have hs2 : ((er_ ((vF l).map kOf)).map (·.1)).Pairwise fun a b => aE_ a b ≤ 0 := by
  rw [List.pairwise_map]
  refine hs.imp fun {a b} h => ?_
  rw [ltK, decide_eq_false_iff_not] at h
  have := cmp_fact.anti a.1 b.1
  omega
 have hvL : ∀ f ∈ (er_ ((vF l).map kOf)).map (·.1), vOk f := fun f hf => hvo f (hL.mem_iff.1 hf)
 have hmem : ∀ f, f ∈ valL l ↔ f ∈ vF l := fun f => (t0_ hvL hs2 f).trans hL.mem_iff
 refine ⟨hmem, t1_ hvL hs2, ?_, fun f hf => hvo f ((hmem f).1 hf)⟩
 have h1 : (valL l).length ≤ ((er_ ((vF l).map kOf)).map (·.1)).length := uR_ _ _
 rw [hL.length_eq] at h1
 exact Nat.le_trans h1 (qq_ l)
def oO_ (l : List Sg) (t : Int) (f : F) : Prop := f 2 ≤ t ∧ (numF f).2 = true ∧ ∀ p ∈ l, ca_ p.1 = ca_ f → (numF p.1).2 = true → ¬ aE_ p.1 f < 0
theorem rM_ {l : List Sg} (hv : ∀ p ∈ l, sgOk p) (t : Int) (f : F) : f ∈ fH_ t (valL l) ↔
  (∃ p ∈ l, p.1 = f) ∧ oO_ l t f ∧ f 3 ≠ 13 ∧ ∀ p ∈ l, ¬ (p.1 3 = 13 ∧ oO_ l t p.1 ∧ p.1 0 ≤ f 0 ∧ (p.1 55, p.1 56) = ca_ f) := by
 obtain ⟨h1, h2, _, _⟩ := aQ_ hv
 rw [sX_ h2]
 constructor
 ·rintro ⟨⟨ha, hb, hc⟩, hd, he⟩
  obtain ⟨hx, hn⟩ := iD_.1 ((h1 f).1 ha)
  refine ⟨hx, ⟨hb, hn, fun p hp hr hq => hc p.1 ((h1 _).2 (iD_.2 ⟨⟨p, hp, rfl⟩, hq⟩)) hr⟩, hd, fun p hp => ?_⟩
  rintro ⟨g1, ⟨g2, g3, g4⟩, g5, g6⟩
  refine he p.1 ((h1 _).2 (iD_.2 ⟨⟨p, hp, rfl⟩, g3⟩)) g2 (fun h hh hr => ?_) ⟨g1, g5, g6⟩
  obtain ⟨⟨q, hq, rfl⟩, hqn⟩ := iD_.1 ((h1 h).1 hh)
  exact g4 q hq hr hqn
 ·rintro ⟨hx, ⟨hb, hn, hc⟩, hd, he⟩
  refine ⟨⟨(h1 f).2 (iD_.2 ⟨hx, hn⟩), hb, fun g hg hr => ?_⟩, hd, fun g hg g2 g4 => ?_⟩
  ·obtain ⟨⟨q, hq, rfl⟩, hqn⟩ := iD_.1 ((h1 g).1 hg)
   exact hc q hq hr hqn
  ·rintro ⟨g1, g5, g6⟩
   obtain ⟨⟨q, hq, rfl⟩, hqn⟩ := iD_.1 ((h1 g).1 hg)
   exact he q hq ⟨g1, ⟨g2, hqn, fun p hp hr hpn => g4 p.1 ((h1 _).2 (iD_.2 ⟨⟨p, hp, rfl⟩, hpn⟩)) hr⟩, g5, g6⟩
theorem od_ {l : List Sg} (hv : ∀ p ∈ l, sgOk p) (t : Int) : (fH_ t (valL l)).Pairwise fun a b => aE_ a b < 0 := (aQ_ hv).2.1.sublist (sW_ t _)
def vds (r : List F) : Nat → List (Int × Int)
 | 0 => []
 | i + 1 => if kQ_ (fat r i) = true then cR_ (vds r i) (fat r i 55, fat r i 56) else vds r i
theorem un_ (r : List F) (p : Int × Int) : ∀ i, i ≤ r.length → (p ∈ vds r i ↔ ∃ g ∈ r.take i, kQ_ g = true ∧ (g 55, g 56) = p)
 | 0, _ => by simp [vds]
 | i + 1, h => by
  rw [vds, hf_ (by omega)]
  have ih := un_ r p i (by omega)
  split
  ·rename_i hv
   rw [addRef_in, ih]
   constructor
   ·rintro (⟨g, h1, h2, h3⟩ | rfl)
    ·exact ⟨g, List.mem_append.2 (.inl h1), h2, h3⟩
    ·exact ⟨_, by simp, hv, rfl⟩
   ·rintro ⟨g, h1, h2, h3⟩
    rcases List.mem_append.1 h1 with h1 | h1
    ·exact .inl ⟨g, h1, h2, h3⟩
    ·rw [List.mem_singleton] at h1; subst h1; exact .inr h3.symm
  ·rename_i hv
   rw [ih]
   constructor
   ·rintro ⟨g, h1, h2, h3⟩; exact ⟨g, List.mem_append.2 (.inl h1), h2, h3⟩
   ·rintro ⟨g, h1, h2, h3⟩
    rcases List.mem_append.1 h1 with h1 | h1
    ·exact ⟨g, h1, h2, h3⟩
    ·rw [List.mem_singleton] at h1; subst h1; exact absurd h2 hv
theorem u5_ (r : List F) (p : Int × Int) : p ∈ vds r r.length ↔ p ∈ oc_ r := by
 rw [un_ r p _ (Nat.le_refl _), List.take_length, kP_]
 simp only [kQ_, Bool.and_eq_true, decide_eq_true_eq]
 constructor
 ·rintro ⟨g, h1, ⟨h2, h3⟩, h4⟩; exact ⟨g, h1, h2, h3, h4⟩
 ·rintro ⟨g, h1, h2, h3, h4⟩; exact ⟨g, h1, ⟨h2, h3⟩, h4⟩
theorem sY_ {r : List F} (hr : ∀ f ∈ r, fOk f) : ∀ i, i ≤ r.length → py_ (vds r i)
 | 0, _ => fun _ h => by cases h
 | i + 1, h => by
  rw [vds]
  have := hr _ (dn_ (show i < r.length by omega))
  split
  ·exact hN_ (sY_ hr i (by omega)) (this.1 55) (this.1 56)
  ·exact sY_ hr i (by omega)
def bs1 (r : List F) (i : Nat) : Bxs := [(1100, .cells 110 [.row 1101]), (1101, .mp (a5_ (vds r i)))]
theorem nH_ (r : List F) (i : Nat) : bT_ (bs1 r i) := by
 intro k b h
 simp only [bs1, getB] at h
 (repeat' split at h) <;> cases h <;> rfl
def keep (V : List (Int × Int)) (f : F) : Bool := !decide (f 3 = 13) && !decide (ca_ f ∈ V)
def bs2 (V : List (Int × Int)) : List F → Bxs
 | [] => [(1100, .cells 110 [.row 1101]), (1101, .mp (a5_ V)), (1102, .cells 115 [.d nilD])]
 | f :: r => [(1100, .cells 110 [.row 1101]), (1101, .mp (a5_ V)), (1102, .cells 115 [.row 505]), (505, rB (f :: r))]
theorem nG_ (V : List (Int × Int)) (l : List F) : bT_ (bs2 V l) := by
 intro k b h
 cases l <;> simp only [bs2, getB] at h <;> (repeat' split at h) <;> cases h <;> rfl
theorem vt_ {t : Int} {l : List F} (h : ∀ f ∈ l, fOk f) : ∀ f ∈ recS t l [], fOk f := fun f hf => h f ((e8_ t l []).subset hf)
theorem jz_ (l : List Sg) (b : Bool) (t : Int) (hl : l.length ≤ 14) (hv : ∀ p ∈ l, sgOk p) (hal : (valL l).length ≤ 14) (hao : ∀ f ∈ valL l, fOk f) : Fn0 Tryz.prog 53 [lgD l b, .v (.int .i64 t)] (slF (fH_ t (valL l))) := by
 refine qe_ aa_ Tryz.func53 rfl fun β0 => ?_
 simp only [Tryz.f53]
 repeat(first|apply wG|(apply wR;simp -dsimp)|refine aI ?_)
 refine ag_ gU_ (oe_ l b hl hv) rfl rfl (And.intro (ai_ [sgD l b]) trivial) ?_
 generalize valL l = all at hal hao
 simp -dsimp
 repeat(first|apply wG|(apply wR;simp -dsimp)|refine aI ?_)
 refine vcStop.makeMap 11 rfl (by simp) ?_
 simp -dsimp
 repeat(first|apply wG|(apply wR;simp -dsimp)|refine aI ?_)
 refine vcStop.call gT_ (hP_ all t) (rl [(0, 600), (1, 601)]) rfl rfl (by simp [BoxLeq]) (aj_ (by simp [BoxLeq]) rfl (by first | rfl | (simp [BoxLeq]; done)) (by simp [BoxLeq]) (by simp [BoxLeq])) (fun _ h => h.elim) (fun ⟨_, h⟩ => h.elim) (fun ⟨_, h⟩ => h.elim) (by simp [BoxLeq]) ?_
 simp -dsimp
 repeat(first|apply wG|(apply wR;simp -dsimp)|refine aI ?_)
 have hro := vt_ (t := t) hao
 refine fB_ gK_ (hQ_ all t hal hao) (jump := fun _ => none) (bs1 (recS t all [])) (mkS 52 [(6, .ptr 1100 0)] []).sl 990 (rl [(1000, 600), (1001, 601), (1100, 6), (1101, 11), (990, 602)]) rfl rfl rfl (by simp) (by simp) (by simp) (fun i _ => nH_ _ i)
  (by simp [bs1]) (by simp) (by simp [bs1]) (by simp) (by decide) (by simp [bs1]) (fun _ _ => rfl) (fun _ _ => rfl) ?_ (fun G => aj_ (by simp [bs1, vds, a5_]) (by simp [bs1]) (by simp [bs1]) (by simp [bs1]) (by simp [bs1])) (fun G => by simp [bs1]) ?_
 ·intro i hi lp β1
  have hfo := hro _ (dn_ hi)
  have hI := sY_ hro i (by omega)
  have hvs : vds (recS t all []) (i + 1) = if kQ_ (fat (recS t all []) i) = true then cR_ (vds (recS t all []) i) (fat (recS t all []) i 55, fat (recS t all []) i 56) else vds (recS t all []) i := rfl
  generalize fat (recS t all []) i = f at hfo hvs
  obtain ⟨lk, hlk⟩ := fR_ (r := (f 55, f 56)) (hfo.1 55) (hfo.1 56)
  simp -dsimp [bs1, fD]
  generalize vds (recS t all []) i = V at hI hvs ⊢
  repeat(first|apply wG|(apply wR;simp -dsimp)|refine aI ?_)
  refine WP.cond (b := kQ_ f) (by simp [kQ_]) (fun hb => ?_) (fun hb => ?_)
  ·rw [if_pos hb] at hvs
   repeat(first|apply wG|(apply wR;simp -dsimp)|refine aI ?_)
   refine cX_ aa_ rfl rfl b9_ (j := 1101) rfl (kvs := a5_ V) (a5_ (cR_ V (f 55, f 56))) rfl (key := kJ_ (f 55, f 56)) (eu_ _ _) (d := .v (.bool true)) (.refl _) hlk (b8_ hI) (jN_ V _) ?_
   simp -dsimp
   repeat(first|apply wG|(apply wR;simp -dsimp)|refine aI ?_)
   exact ⟨mkS 52 [] (bs1 (recS t all []) (i + 1)), ae_ [7] (by simp) (by simp [bs1, hvs]), subB_ok (by simp [bs1])⟩
  ·rw [if_neg (by simp [hb])] at hvs
   refine WP.skip ?_
   simp -dsimp
   repeat(first|apply wG|(apply wR;simp -dsimp)|refine aI ?_)
   exact ⟨mkS 52 [] (bs1 (recS t all []) (i + 1)), ae_ [7] (by simp) (by simp [bs1, hvs]), subB_ok (by simp [bs1])⟩
 ·intro G
  have hI := sY_ hro _ (Nat.le_refl _)
  have hVw : fH_ t all = (recS t all []).filter (keep (vds (recS t all []) (recS t all []).length)) := by
   unfold fH_
   refine List.filter_congr fun f _ => ?_
   unfold keep
   congr 2
   rw [Bool.eq_iff_iff, decide_eq_true_eq, decide_eq_true_eq, u5_]
  have hit := hQ_ all t hal hao
  have hrl : (recS t all []).length ≤ 14 := by have := (e8_ t all []).length_le; omega
  rw [hT_, lO_]
  simp -dsimp [bs1]
  repeat(first|apply wG|(apply wR;simp -dsimp)|refine aI ?_)
  rw [hVw]
  generalize recS t all [] = r at hro hI hit hrl
  generalize vds r r.length = V at hI
  refine vcStop.call gT_ (hP_ all t) (rl [(0, 603), (1, 604)]) rfl rfl (by simp [BoxLeq]) (aj_ (by simp [BoxLeq]) rfl (by first | rfl | (simp [BoxLeq]; done)) (by simp [BoxLeq]) (by simp [BoxLeq])) (fun _ h => h.elim) (fun ⟨_, h⟩ => h.elim) (fun ⟨_, h⟩ => h.elim) (by simp [BoxLeq]) ?_
  simp -dsimp
  repeat(first|apply wG|(apply wR;simp -dsimp)|refine aI ?_)
  refine fB_ gK_ hit (jump := fun _ => none) (fun i => bs2 V ((r.take i).filter (keep V))) (mkS 52 [(4, .ptr 1102 0), (6, .ptr 1100 0)] []).sl 990 (rl [(1000, 603), (1001, 604), (1100, 6), (1101, 11), (1102, 4), (505, 700), (990, 605)]) rfl rfl rfl (by simp) (by simp) (by simp) (fun i _ => nG_ _ _)
   (by cases (r.take r.length).filter (keep V) <;> simp [bs2]) (by simp) (by cases (r.take r.length).filter (keep V) <;> simp [bs2]) (by simp) (by decide) (by cases (r.take r.length).filter (keep V) <;> simp [bs2]) (fun _ _ => rfl) (fun _ _ => rfl) ?_ (fun G => aj_ (by simp [bs2]) (by cases (r.take r.length).filter (keep V) <;> simp [bs2]) (by cases (r.take r.length).filter (keep V) <;> simp [bs2]) (by cases (r.take r.length).filter (keep V) <;> simp [bs2]) (by cases (r.take r.length).filter (keep V) <;> simp [bs2])) (fun G => by cases (r.take r.length).filter (keep V) <;> simp [bs2]) ?_
  ·intro i hi lp β1
   have hfo := hro _ (dn_ hi)
   have ht : (r.take (i + 1)).filter (keep V) = (r.take i).filter (keep V) ++ if keep V (fat r i) = true then [fat r i] else [] := by
    rw [hf_ hi, List.filter_append]
    congr 1
    simp only [List.filter_cons, List.filter_nil]
   have hol : ((r.take i).filter (keep V)).length ≤ 14 := by
    have h1 := List.length_filter_le (keep V) (r.take i)
    rw [List.length_take] at h1
    omega
   rw [ht]
   generalize (r.take i).filter (keep V) = o at hol
   generalize fat r i = f at hfo
   obtain ⟨lk, hlk⟩ := fR_ (r := ca_ f) (hfo.1 0) (hfo.1 1)
   cases o with
   | nil =>
    simp -dsimp [bs2, fD]
    repeat(first|apply wG|(apply wR;simp -dsimp)|refine aI ?_)
    refine cE_ aa_ rfl rfl b9_ Tryz.zeroValue4 (j := 1101) (fun hg => by simp [hg]) (kvs := a5_ V) rfl (key := kJ_ (ca_ f)) (fun hg => by simp [hg]; exact eu_ _ _) (.v (.bool (decide (ca_ f ∈ V)))) hlk (b8_ hI) (hl_ V (ca_ f)) ?_
    simp -dsimp
    repeat(first|apply wG|(apply wR;simp -dsimp)|refine aI ?_)
    refine WP.cond (b := keep V f) (by simp [keep]) (fun hb => ?_) (fun hb => ?_)
    ·repeat(first|apply wG|(apply wR;simp -dsimp)|refine aI ?_)
     exact ⟨mkS 52 [] (bs2 V ([f])), Wk.go [8, 49] 50 505 (by decide) (by simp) (by simp) (by simp [bs2, hb, fsC]), subB_ok (by simp [bs2, hb])⟩
    ·refine WP.skip ?_
     simp -dsimp
     repeat(first|apply wG|(apply wR;simp -dsimp)|refine aI ?_)
     exact ⟨mkS 52 [] (bs2 V ([])), ae_ [8] (by simp) (by simp [bs2, hb]), subB_ok (by simp [bs2, hb])⟩
   | cons g o =>
    have hol' : o.length + 1 ≤ 14 := by simpa using hol
    simp -dsimp [bs2, fD]
    repeat(first|apply wG|(apply wR;simp -dsimp)|refine aI ?_)
    refine cE_ aa_ rfl rfl b9_ Tryz.zeroValue4 (j := 1101) (fun hg => by simp [hg]) (kvs := a5_ V) rfl (key := kJ_ (ca_ f)) (fun hg => by simp [hg]; exact eu_ _ _) (.v (.bool (decide (ca_ f ∈ V)))) hlk (b8_ hI) (hl_ V (ca_ f)) ?_
    simp -dsimp
    repeat(first|apply wG|(apply wR;simp -dsimp)|refine aI ?_)
    refine WP.cond (b := keep V f) (by simp [keep]) (fun hb => ?_) (fun hb => ?_)
    ·repeat(first|apply wG|(apply wR;simp -dsimp)|refine aI ?_)
     exact ⟨mkS 52 [] (bs2 V (g :: o ++ [f])), Wk.go [8, 49] 50 505 (by decide) (by simp) (by simp) (by simp [bs2, hb, fsC]), subB_ok (by simp [bs2, hb])⟩
    ·refine WP.skip ?_
     simp -dsimp
     repeat(first|apply wG|(apply wR;simp -dsimp)|refine aI ?_)
     exact ⟨mkS 52 [] (bs2 V (g :: o)), ae_ [8] (by simp) (by simp [bs2, hb]), subB_ok (by simp [bs2, hb])⟩
  ·intro G2
   rw [hT_, lO_, List.take_length]
   generalize r.filter (keep V) = o
   cases o with
   | nil =>
    simp -dsimp [bs2]
    repeat(first|apply wG|(apply wR;simp -dsimp)|refine aI ?_)
    refine WP.ret (ib_ ((ae_ [] (S' := mkS 52 [(4, .ptr 4 0)] [(602, .obj G (.deferred (some []))), (4, .cells 115 [.d nilD]), (605, .obj G2 (.deferred (some [])))] [G2, G]) (by simp) (by simp)).trans ((cS_ 4 0 500 65 57 (by simp; exact ⟨rfl, rfl⟩) rfl (by simp)).trans (Wk.freeze (k := 500) (T := 65) (sz := 57) (n := 0) (ds := []) (by simp)))) ?_ G2 605 G 602 (by decide) rfl rfl rfl rfl rfl)
    simp -dsimp
   | cons g o =>
    simp -dsimp [bs2]
    repeat(first|apply wG|(apply wR;simp -dsimp)|refine aI ?_)
    refine WP.ret (ib_ ((ae_ [] (S' := mkS 52 [(4, .ptr 4 0)] [(602, .obj G (.deferred (some []))), (4, .cells 115 [.row 700]), (700, rB (g :: o)), (605, .obj G2 (.deferred (some [])))] [G2, G]) (by simp) (by simp)).trans (Wk.freeze (k := 700) (T := 65) (sz := 57) (n := (g :: o).length) (ds := fsC (g :: o)) (by simp))) ?_ G2 605 G 602 (by decide) rfl rfl rfl rfl rfl)
    simp -dsimp
def uV_ (f g : F) : Bool := (decide (g 0 = f 0) && decide (g 1 = f 1)) && (numF g).2 && decide (aE_ g f < 0)
def oN_ (l : List Sg) (t : Int) (f : F) : Bool := l.all (fun p => !uV_ f p.1) && (decide (f 2 ≤ t) && (numF f).2)
theorem jq_ {l : List Sg} {t : Int} {f : F} : oN_ l t f = true ↔ oO_ l t f := by
 simp only [oN_, oO_, uV_, ca_, Bool.and_eq_true, List.all_eq_true, Bool.not_eq_true', Bool.and_eq_false_iff, decide_eq_true_eq, decide_eq_false_iff_not, Prod.mk.injEq]
 constructor
 ·rintro ⟨h1, h2, h3⟩
  refine ⟨h2, h3, fun p hp hr hn hc => ?_⟩
  rcases h1 p hp with (((h | h) | h) | h)
  ·exact h hr.1
  ·exact h hr.2
  ·rw [hn] at h; cases h
  ·exact h hc
 ·rintro ⟨h2, h3, h1⟩
  refine ⟨fun p hp => ?_, h2, h3⟩
  by_cases a : p.1 0 = f 0
  ·by_cases b : p.1 1 = f 1
   ·cases hn : (numF p.1).2 with
    | false => exact .inl (.inr rfl)
    | true => exact .inr (h1 p hp ⟨a, b⟩ hn)
   ·exact .inl (.inl (.inr b))
  ·exact .inl (.inl (.inl a))
theorem nk_ {l : List F} (h : ∀ f ∈ l, fOk f) : ∀ p ∈ rawL l, sgOk p := fun p hp => by
 obtain ⟨f, hf, rfl⟩ := List.mem_map.1 hp
 exact ⟨h f hf, rfl, (by decide : ∀ d ∈ zs, oneD d = true)⟩
theorem tc_ (l : List F) : (rawL l).length = l.length := by simp [rawL]
def rS (l : List F) : List F → St
 | [] => mkS 20 [(2, .ptr 2 0), (5, .d (slF l)), (6, .d (.v (.int .i64 l.length))), (7, .d (.v (.int .i64 0)))] [(2, .cells 25 [.d nilD])]
 | f :: r => mkS 20 [(2, .ptr 2 0), (5, .d (slF l)), (6, .d (.v (.int .i64 l.length))), (7, .d (.v (.int .i64 ((f :: r).length : Nat))))] [(2, .cells 25 [.row 505]), (505, .row 70 61 (f :: r).length ((sgC (rawL (f :: r))).map .d))]
theorem vi_ (l : List F) (f : F) : sgC (rawL (l ++ [f])) = sgC (rawL l) ++ (fcs f 0 57 ++ zs) := by simp [sgC, rawL]
theorem qk_ : ([.d (.v (.int .i64 0)), .d (.v (.int .i64 0)), .d (.v (.int .i64 0)), .d (.v (.int .i64 0)), .d (.v (.int .i64 0)), .d (.v (.int .i64 0)), .d (.v (.int .i64 0)), .d (.v (.int .i64 0)), .d (.v (.int .i64 0)), .d (.v (.int .i64 0)), .d (.v (.int .i64 0)), .d (.v (.int .i64 0)), .d (.v (.int .i64 0)), .d (.v (.int .i64 0)), .d (.v (.int .i64 0)), .d (.v (.int .i64 0)), .d (.v (.int .i64 0)), .d (.v (.int .i64 0)), .d (.v (.int .i64 0)), .d (.v (.int .i64 0)), .d (.v (.int .i64 0)), .d (.v (.int .i64 0)), .d (.v (.int .i64 0)), .d (.v (.int .i64 0)), .d (.v (.int .i64 0)), .d (.v (.int .i64 0)), .d (.v (.int .i64 0)), .d (.v (.int .i64 0)), .d (.v (.int .i64 0)), .d (.v (.int .i64 0)), .d (.v (.int .i64 0)), .d (.v (.int .i64 0)), .d (.v (.int .i64 0)), .d (.v (.int .i64 0)), .d (.v (.int .i64 0)), .d (.v (.int .i64 0)), .d (.v (.int .i64 0)), .d (.v (.int .i64 0)), .d (.v (.int .i64 0)), .d (.v (.int .i64 0)), .d (.v (.int .i64 0)), .d (.v (.int .i64 0)), .d (.v (.int .i64 0)), .d (.v (.int .i64 0)), .d (.v (.int .i64 0)), .d (.v (.int .i64 0)), .d (.v (.int .i64 0)), .d (.v (.int .i64 0)), .d (.v (.int .i64 0)), .d (.v (.int .i64 0)), .d (.v (.int .i64 0)), .d (.v (.int .i64 0)), .d (.v (.int .i64 0)), .d (.v (.int .i64 0)), .d (.v (.bool false)), .d (.v (.int .i64 0)), .d (.v (.int .i64 0)), .d (.v (.int .i64 0)), .d nilD, .d nilD, .d nilD] : List AV) = List.map AV.d (fcs f0 0 57) ++ List.map AV.d zs := rfl
theorem qN_ (p : F) : setL (List.map AV.d (fcs f0 0 57) ++ List.map AV.d zs) 0 (List.map AV.d (fcs p 0 57)) = List.map AV.d (fcs p 0 57) ++ List.map AV.d zs := by
 rw [c0_ _ _ _ (by rw [List.length_append, List.length_map, List.length_map, aq_, aq_]; omega), List.take_zero, List.nil_append, List.length_map, aq_, Nat.zero_add, List.drop_append, List.length_map, aq_, Nat.sub_self, List.drop_zero, List.drop_of_length_le (by rw [List.length_map, aq_]; omega), List.nil_append]
theorem q1_ (l : List F) (hl : l.length ≤ 14) (hf : ∀ f ∈ l, fOk f) : Fn0 Tryz.prog 54 [slF l] (lgD (rawL l) false) := by
 refine ac_ (pn := ap_) aa_ Tryz.func54 rfl fun β0 => ?_
 simp only [Tryz.f54]
 repeat(first|apply wG|(apply wR;simp -dsimp)|refine aI ?_)
 refine ak_ (fun m S => ∃ l1 l2, l = l1 ++ l2 ∧ m = l2.length ∧ S = rS l l1) l.length (S0 := rS l []) (ae_ [] (by simp [rS]) (by simp [rS])) ⟨[], l, rfl, rfl, rfl⟩ ?_
 rintro _ _ ⟨l1, l2, hl12, rfl, rfl⟩
 cases l2 with
 | nil =>
  simp only [List.append_nil] at hl12
  subst hl12
  cases l with
  | nil =>
   rw [rS]
   simp -dsimp
   repeat(first|apply wG|(apply wR;simp -dsimp)|refine aI ?_)
   refine cF (by simp) ?_
   refine WP.exit ?_
   simp -dsimp
   repeat(first|apply wG|(apply wR;simp -dsimp)|refine aI ?_)
   refine WP.ret (an_ ((ae_ [] (S' := mkS 20 [(2, .ptr 2 0)] [(2, .cells 25 [.d nilD])]) (by simp) (by simp)).trans ((cS_ 2 0 500 70 61 (by simp; exact ⟨rfl, rfl⟩) rfl (by simp)).trans (Wk.freeze (k := 500) (T := 70) (sz := 61) (n := 0) (ds := []) (by simp)))) ?_)
   simp -dsimp [rawL, sgC]
  | cons f r =>
   rw [rS]
   simp -dsimp
   repeat(first|apply wG|(apply wR;simp -dsimp)|refine aI ?_)
   refine cF (by simp) ?_
   refine WP.exit ?_
   simp -dsimp
   repeat(first|apply wG|(apply wR;simp -dsimp)|refine aI ?_)
   refine WP.ret (an_ ((ae_ [] (S' := mkS 20 [(2, .ptr 2 0)] [(2, .cells 25 [.row 505]), (505, .row 70 61 (f :: r).length ((sgC (rawL (f :: r))).map .d))]) (by simp) (by simp)).trans (Wk.freeze (k := 505) (T := 70) (sz := 61) (n := (f :: r).length) (ds := sgC (rawL (f :: r))) (by simp))) ?_)
   simp -dsimp [tc_]
 | cons p l2 =>
  have hll : l.length = l1.length + (l2.length + 1) := by rw [hl12]; simp
  have e1 : IntKind.i64.wrap ((l1.length : Int) + 1) = (l1.length : Int) + 1 := IntWalk.i64_in _ (by omega)
  have h1 := rJ_ l1 p l2
  rw [← hl12] at h1
  have hzl : zs.length = 4 := rfl
  have hone : ∀ c, ((∃ a, a ∈ fcs p 0 57 ∧ AV.d a = c) ∨ ∃ a, a ∈ zs ∧ AV.d a = c) → oneA c = true := by
   rintro c (⟨a, h, rfl⟩ | ⟨a, h, rfl⟩)
   ·exact fcs_side h
   ·exact (by decide : ∀ d ∈ zs, oneD d = true) a h
  have hz : zs = [.v (.int .i64 0), nilD, nilD, nilD] := rfl
  cases l1 with
  | nil =>
   rw [rS]
   simp -dsimp
   repeat(first|apply wG|(apply wR;simp -dsimp)|refine aI ?_)
   refine cT (by simp; omega) ?_
   refine WP.skip ?_
   simp -dsimp
   refine WP.seq (WP.block ?_)
   simp only [List.length_nil, Nat.zero_mul, List.drop_zero] at h1
   repeat(first|apply wG|(apply wR;simp -dsimp [h1, qk_, qN_, hzl])|refine aI ?_)
   refine ah_ (mkS 20 [(2, .ptr 2 0), (5, .d (slF l)), (6, .d (.v (.int .i64 l.length))), (7, .d (.v (.int .i64 (([p]).length : Nat))))] [(2, .cells 25 [.row 505]), (505, .row 70 61 ([p]).length ((sgC (rawL ([p]))).map .d))]) (Wk.go [4, 15] 16 505 (by decide) (by simp) (by simp [show IntKind.i64.wrap 1 = 1 by decide]) (by simp [sgC, rawL])) l2.length (by simp) ⟨[p], l2, by simp [hl12], rfl, rfl⟩
  | cons f r =>
   rw [rS]
   simp -dsimp
   repeat(first|apply wG|(apply wR;simp -dsimp)|refine aI ?_)
   refine cT (by simp; simp at hll; omega) ?_
   refine WP.skip ?_
   simp -dsimp
   refine WP.seq (WP.block ?_)
   simp only [List.length_cons] at h1
   repeat(first|apply wG|(apply wR;simp -dsimp [h1, qk_, qN_, hzl])|refine aI ?_)
   have e2 : IntKind.i64.wrap ((r.length : Int) + 1 + 1) = (r.length : Int) + 1 + 1 := by simpa using e1
   refine ah_ (mkS 20 [(2, .ptr 2 0), (5, .d (slF l)), (6, .d (.v (.int .i64 l.length))), (7, .d (.v (.int .i64 ((f :: r ++ [p]).length : Nat))))] [(2, .cells 25 [.row 505]), (505, .row 70 61 (f :: r ++ [p]).length ((sgC (rawL (f :: r ++ [p]))).map .d))]) (Wk.go [4, 15, 505] 16 505 (by decide) (by simp) (by simp [e2]) (by rw [vi_]; simp)) l2.length (by simp) ⟨f :: r ++ [p], l2, by simp [hl12], rfl, rfl⟩
def sA : F := shF 2 5 10
def sB2 : F := shF 2 5 20
def voF (c : Int) : F := fun i => if i = 0 then c else if i = 1 then 1 else if i = 2 then 30 else if i = 3 then 13 else if i = 55 then 2 else if i = 56 then 5 else 0
theorem um_ {c : Int} (h1 : isI c) : fOk (voF c) := by
 refine ⟨fun i => ?_, .inl rfl, fun i hi => ?_⟩
 ·unfold voF
  split
  ·exact h1
  ·(repeat' split) <;> first | exact uH_ | (unfold isI; omega)
 ·unfold voF
  rw [if_neg (by omega), if_neg (by omega), if_neg (by omega), if_neg (by omega), if_neg (by omega), if_neg (by omega)]
def en_ (l : List Sg) (t : Int) (f : F) : Bool := oN_ l t f && !decide (f 3 = 13) && l.all fun p => !(decide (p.1 3 = 13) && oN_ l t p.1 && decide (p.1 0 ≤ f 0) && (decide (p.1 55 = f 0) && decide (p.1 56 = f 1)))
theorem d7_ {l : List Sg} (hv : ∀ p ∈ l, sgOk p) (t : Int) (f : F) : f ∈ fH_ t (valL l) ↔ (∃ p ∈ l, p.1 = f) ∧ en_ l t f = true := by
 rw [rM_ hv, en_, Bool.and_eq_true, Bool.and_eq_true, jq_, and_assoc]
 refine and_congr Iff.rfl (and_congr Iff.rfl (and_congr (by simp) ?_))
 rw [List.all_eq_true]
 refine forall_congr' fun p => forall_congr' fun hp => ?_
 rw [Bool.not_eq_true', ← Bool.not_eq_true, Bool.and_eq_true, Bool.and_eq_true, Bool.and_eq_true, Bool.and_eq_true, jq_]
 simp only [decide_eq_true_eq, ca_, Prod.mk.injEq, and_assoc]
theorem oA_ {L : List F} {a : F} (hp : L.Pairwise fun a b => aE_ a b < 0) (h : ∀ x, x ∈ L ↔ x = a) : L = [a] := by
 have irr : ∀ a : F, ¬ aE_ a a < 0 := fun a h => by have := cmp_fact.anti a a; omega
 match L, hp, h with
 | [], _, h => exact absurd ((h a).2 rfl) (by simp)
 | [x], _, h => rw [(h x).1 (by simp)]
 | x :: y :: r, hp, h =>
  have hx := (h x).1 (by simp)
  have hy := (h y).1 (by simp)
  have := (List.pairwise_cons.1 hp).1 y (by simp)
  rw [hx, hy] at this
  exact absurd this (irr a)
theorem lv_ {L : List F} (h : ∀ x, x ∉ L) : L = [] := List.eq_nil_iff_forall_not_mem.2 h
theorem av_ {n : Int} (h : 0 ≤ n ∧ n ≤ 100) : isI n := by unfold isI; omega
theorem b7_ : fOk sA := ge_ (av_ (by omega)) (av_ (by omega)) (av_ (by omega))
theorem et_ : fOk sB2 := ge_ (av_ (by omega)) (av_ (by omega)) (av_ (by omega))
theorem kR_ : fOk (voF 3) := um_ (av_ (by omega))
theorem ei_ : fOk (voF 2) := um_ (av_ (by omega))
theorem ba_ {a b c : F} (ha : fOk a) (hb : fOk b) (hc : fOk c) : ∀ p ∈ rawL [a, b, c], sgOk p := nk_ fun f hf => by
 simp only [List.mem_cons, List.not_mem_nil, or_false] at hf
 rcases hf with rfl | rfl | rfl <;> assumption
theorem AH_ : fH_ 40 (valL (rawL [sB2, sA, voF 3])) = [sA] := by
 have hv := ba_ et_ b7_ kR_
 refine oA_ (od_ hv 40) fun x => ?_
 rw [d7_ hv]
 constructor
 ·rintro ⟨⟨p, hp, rfl⟩, h⟩
  simp only [rawL, List.map_cons, List.map_nil, List.mem_cons, List.not_mem_nil, or_false] at hp
  rcases hp with rfl | rfl | rfl
  ·exact absurd (h.symm.trans (show en_ (rawL [sB2, sA, voF 3]) 40 sB2 = false by kernel_rfl)) (by decide)
  ·rfl
  ·exact absurd (h.symm.trans (show en_ (rawL [sB2, sA, voF 3]) 40 (voF 3) = false by kernel_rfl)) (by decide)
 ·rintro rfl
  exact ⟨⟨(sA, zs), by simp [rawL], rfl⟩, by kernel_rfl⟩
theorem AG_ : fH_ 40 (valL (rawL [sB2, sA, voF 2])) = [] := by
 have hv := ba_ et_ b7_ ei_
 refine lv_ fun x => ?_
 rw [d7_ hv]
 rintro ⟨⟨p, hp, rfl⟩, h⟩
 simp only [rawL, List.map_cons, List.map_nil, List.mem_cons, List.not_mem_nil, or_false] at hp
 rcases hp with rfl | rfl | rfl
 ·exact absurd (h.symm.trans (show en_ (rawL [sB2, sA, voF 2]) 40 sB2 = false by kernel_rfl)) (by decide)
 ·exact absurd (h.symm.trans (show en_ (rawL [sB2, sA, voF 2]) 40 sA = false by kernel_rfl)) (by decide)
 ·exact absurd (h.symm.trans (show en_ (rawL [sB2, sA, voF 2]) 40 (voF 2) = false by kernel_rfl)) (by decide)
theorem AF_ : fH_ 29 (valL (rawL [sB2, sA, voF 2])) = [sA] := by
 have hv := ba_ et_ b7_ ei_
 refine oA_ (od_ hv 29) fun x => ?_
 rw [d7_ hv]
 constructor
 ·rintro ⟨⟨p, hp, rfl⟩, h⟩
  simp only [rawL, List.map_cons, List.map_nil, List.mem_cons, List.not_mem_nil, or_false] at hp
  rcases hp with rfl | rfl | rfl
  ·exact absurd (h.symm.trans (show en_ (rawL [sB2, sA, voF 2]) 29 sB2 = false by kernel_rfl)) (by decide)
  ·rfl
  ·exact absurd (h.symm.trans (show en_ (rawL [sB2, sA, voF 2]) 29 (voF 2) = false by kernel_rfl)) (by decide)
 ·rintro rfl
  exact ⟨⟨(sA, zs), by simp [rawL], rfl⟩, by kernel_rfl⟩
theorem AE_ : fH_ 9 (valL (rawL [sA])) = [] := by
 have hv : ∀ p ∈ rawL [sA], sgOk p := nk_ fun f hf => by rw [List.mem_singleton] at hf; subst hf; exact b7_
 refine lv_ fun x => ?_
 rw [d7_ hv]
 rintro ⟨⟨p, hp, rfl⟩, h⟩
 simp only [rawL, List.map_cons, List.map_nil, List.mem_cons, List.not_mem_nil, or_false] at hp
 subst hp
 exact absurd (h.symm.trans (show en_ (rawL [sA]) 9 sA = false by kernel_rfl)) (by decide)
theorem BU_ : zO_ (valL (rawL [shF 3 4 1, shF 3 2 1, shF 3 1 5])) 3 = 2 := by
 have o1 : fOk (shF 3 4 1) := ge_ (av_ (by omega)) (av_ (by omega)) (av_ (by omega))
 have o2 : fOk (shF 3 2 1) := ge_ (av_ (by omega)) (av_ (by omega)) (av_ (by omega))
 have o3 : fOk (shF 3 1 5) := ge_ (av_ (by omega)) (av_ (by omega)) (av_ (by omega))
 have hv := ba_ o1 o2 o3
 have n1 : (numF (shF 3 4 1)).2 = true := by decide
 have n2 : (numF (shF 3 2 1)).2 = true := by decide
 have n3 : (numF (shF 3 1 5)).2 = true := by decide
 have hm : ∀ f, f ∈ valL (rawL [shF 3 4 1, shF 3 2 1, shF 3 1 5]) ↔ f = shF 3 4 1 ∨ f = shF 3 2 1 ∨ f = shF 3 1 5 := fun f => by
  rw [(aQ_ hv).1, iD_]
  constructor
  ·rintro ⟨⟨p, hp, rfl⟩, _⟩
   simp only [rawL, List.map_cons, List.map_nil, List.mem_cons, List.not_mem_nil, or_false] at hp
   rcases hp with rfl | rfl | rfl <;> simp
  ·rintro (rfl | rfl | rfl)
   ·exact ⟨⟨(shF 3 4 1, zs), by simp [rawL], rfl⟩, n1⟩
   ·exact ⟨⟨(shF 3 2 1, zs), by simp [rawL], rfl⟩, n2⟩
   ·exact ⟨⟨(shF 3 1 5, zs), by simp [rawL], rfl⟩, n3⟩
 unfold zO_
 generalize valL (rawL [shF 3 4 1, shF 3 2 1, shF 3 1 5]) = all at hm
 obtain ⟨h1, h2⟩ := tZ_ (rfs all all.length) 3
 have hR : ∀ k : Int, (3, k) ∈ rfs all all.length ↔ k = 4 ∨ k = 2 ∨ k = 1 := fun k => by
  rw [vo_]
  constructor
  ·rintro ⟨g, hg, he⟩
   have hk : g 1 = k := congrArg Prod.snd he
   rcases (hm g).1 hg with rfl | rfl | rfl
   ·exact .inl hk.symm
   ·exact .inr (.inl hk.symm)
   ·exact .inr (.inr hk.symm)
  ·rintro (rfl | rfl | rfl)
   ·exact ⟨_, (hm _).2 (.inl rfl), rfl⟩
   ·exact ⟨_, (hm _).2 (.inr (.inl rfl)), rfl⟩
   ·exact ⟨_, (hm _).2 (.inr (.inr rfl)), rfl⟩
 generalize cplL (rfs all all.length) 3 = n at h1 h2
 rw [hR] at h2
 have a : ¬ 2 < n := fun h => by have := (hR _).1 (h1 2 h); omega
 omega
theorem AK_ (a b c : F) (ha : fOk a) (hb : fOk b) (hc : fOk c) : Fun Tryz.prog 54 [.row 1000] [(1000, .row 65 57 3 ((fsC [a, b, c]).map .d))] (.d (lgD (rawL [a, b, c]) false)) [] fun _ => False :=
 a1_ 1000 (T := 65) (cs := fsC [a, b, c]) (q1_ [a, b, c] (by simp) (fun f hf => by
  simp only [List.mem_cons, List.not_mem_nil, or_false] at hf
  rcases hf with rfl | rfl | rfl <;> assumption)) rfl rfl trivial
theorem AB_ : ([.d (.v (.int .i64 0)), .d (.v (.int .i64 0)), .d (.v (.int .i64 0)), .d (.v (.int .i64 0)), .d (.v (.int .i64 0)), .d (.v (.int .i64 0)), .d (.v (.int .i64 0)), .d (.v (.int .i64 0)), .d (.v (.int .i64 0)), .d (.v (.int .i64 0)), .d (.v (.int .i64 0)), .d (.v (.int .i64 0)), .d (.v (.int .i64 0)), .d (.v (.int .i64 0)), .d (.v (.int .i64 0)), .d (.v (.int .i64 0)), .d (.v (.int .i64 0)), .d (.v (.int .i64 0)), .d (.v (.int .i64 0)), .d (.v (.int .i64 0)), .d (.v (.int .i64 0)), .d (.v (.int .i64 0)), .d (.v (.int .i64 0)), .d (.v (.int .i64 0)), .d (.v (.int .i64 0)), .d (.v (.int .i64 0)), .d (.v (.int .i64 0)), .d (.v (.int .i64 0)), .d (.v (.int .i64 0)), .d (.v (.int .i64 0)), .d (.v (.int .i64 0)), .d (.v (.int .i64 0)), .d (.v (.int .i64 0)), .d (.v (.int .i64 0)), .d (.v (.int .i64 0)), .d (.v (.int .i64 0)), .d (.v (.int .i64 0)), .d (.v (.int .i64 0)), .d (.v (.int .i64 0)), .d (.v (.int .i64 0)), .d (.v (.int .i64 0)), .d (.v (.int .i64 0)), .d (.v (.int .i64 0)), .d (.v (.int .i64 0)), .d (.v (.int .i64 0)), .d (.v (.int .i64 0)), .d (.v (.int .i64 0)), .d (.v (.int .i64 0)), .d (.v (.int .i64 0)), .d (.v (.int .i64 0)), .d (.v (.int .i64 0)), .d (.v (.int .i64 0)), .d (.v (.int .i64 0)), .d (.v (.int .i64 0)), .d (.v (.bool false)), .d (.v (.int .i64 0)), .d (.v (.int .i64 0)), .d (.v (.int .i64 0)), .d (.v (.int .i64 0)), .d (.v (.int .i64 0)), .d (.v (.int .i64 0)), .d (.v (.int .i64 0)), .d (.v (.int .i64 0)), .d (.v (.int .i64 0)), .d (.v (.int .i64 0)), .d (.v (.int .i64 0)), .d (.v (.int .i64 0)), .d (.v (.int .i64 0)), .d (.v (.int .i64 0)), .d (.v (.int .i64 0)), .d (.v (.int .i64 0)), .d (.v (.int .i64 0)), .d (.v (.int .i64 0)), .d (.v (.int .i64 0)), .d (.v (.int .i64 0)), .d (.v (.int .i64 0)), .d (.v (.int .i64 0)), .d (.v (.int .i64 0)), .d (.v (.int .i64 0)), .d (.v (.int .i64 0)), .d (.v (.int .i64 0)), .d (.v (.int .i64 0)), .d (.v (.int .i64 0)), .d (.v (.int .i64 0)), .d (.v (.int .i64 0)), .d (.v (.int .i64 0)), .d (.v (.int .i64 0)), .d (.v (.int .i64 0)), .d (.v (.int .i64 0)), .d (.v (.int .i64 0)), .d (.v (.int .i64 0)), .d (.v (.int .i64 0)), .d (.v (.int .i64 0)), .d (.v (.int .i64 0)), .d (.v (.int .i64 0)), .d (.v (.int .i64 0)), .d (.v (.int .i64 0)), .d (.v (.int .i64 0)), .d (.v (.int .i64 0)), .d (.v (.int .i64 0)), .d (.v (.int .i64 0)), .d (.v (.int .i64 0)), .d (.v (.int .i64 0)), .d (.v (.int .i64 0)), .d (.v (.int .i64 0)), .d (.v (.int .i64 0)), .d (.v (.int .i64 0)), .d (.v (.int .i64 0)), .d (.v (.int .i64 0)), .d (.v (.int .i64 0)), .d (.v (.int .i64 0)), .d (.v (.bool false)), .d (.v (.int .i64 0)), .d (.v (.int .i64 0)), .d (.v (.int .i64 0)), .d (.v (.int .i64 0)), .d (.v (.int .i64 0)), .d (.v (.int .i64 0)), .d (.v (.int .i64 0)), .d (.v (.int .i64 0)), .d (.v (.int .i64 0)), .d (.v (.int .i64 0)), .d (.v (.int .i64 0)), .d (.v (.int .i64 0)), .d (.v (.int .i64 0)), .d (.v (.int .i64 0)), .d (.v (.int .i64 0)), .d (.v (.int .i64 0)), .d (.v (.int .i64 0)), .d (.v (.int .i64 0)), .d (.v (.int .i64 0)), .d (.v (.int .i64 0)), .d (.v (.int .i64 0)), .d (.v (.int .i64 0)), .d (.v (.int .i64 0)), .d (.v (.int .i64 0)), .d (.v (.int .i64 0)), .d (.v (.int .i64 0)), .d (.v (.int .i64 0)), .d (.v (.int .i64 0)), .d (.v (.int .i64 0)), .d (.v (.int .i64 0)), .d (.v (.int .i64 0)), .d (.v (.int .i64 0)), .d (.v (.int .i64 0)), .d (.v (.int .i64 0)), .d (.v (.int .i64 0)), .d (.v (.int .i64 0)), .d (.v (.int .i64 0)), .d (.v (.int .i64 0)), .d (.v (.int .i64 0)), .d (.v (.int .i64 0)), .d (.v (.int .i64 0)), .d (.v (.int .i64 0)), .d (.v (.int .i64 0)), .d (.v (.int .i64 0)), .d (.v (.int .i64 0)), .d (.v (.int .i64 0)), .d (.v (.int .i64 0)), .d (.v (.int .i64 0)), .d (.v (.int .i64 0)), .d (.v (.int .i64 0)), .d (.v (.int .i64 0)), .d (.v (.int .i64 0)), .d (.v (.int .i64 0)), .d (.v (.int .i64 0)), .d (.v (.int .i64 0)), .d (.v (.int .i64 0)), .d (.v (.bool false)), .d (.v (.int .i64 0)), .d (.v (.int .i64 0))] : List AV) = (fsC [f0, f0, f0]).map AV.d := rfl
theorem sp_ (a b c : F) : setL (setL (setL ((fsC [f0, f0, f0]).map AV.d) 0 ((fcs a 0 57).map .d)) 57 ((fcs b 0 57).map .d)) 114 ((fcs c 0 57).map .d) = (fsC [a, b, c]).map AV.d := by
 have h1 := kk_ (l := [f0, f0, f0]) (i := 0) (by simp) a
 have h2 := kk_ (l := [a, f0, f0]) (i := 1) (by simp) b
 have h3 := kk_ (l := [a, b, f0]) (i := 2) (by simp) c
 simp only [Nat.zero_mul, List.set_cons_zero, List.set_cons_succ] at h1 h2 h3
 rw [h1]
 exact (congrArg (fun x => setL x 114 ((fcs c 0 57).map AV.d)) h2).trans h3
theorem u1_ (c : Int) : ([.d (.v (.int .i64 c)), .d (.v (.int .i64 1)), .d (.v (.int .i64 30)), .d (.v (.int .i64 13)), .d (.v (.int .i64 0)), .d (.v (.int .i64 0)), .d (.v (.int .i64 0)), .d (.v (.int .i64 0)), .d (.v (.int .i64 0)), .d (.v (.int .i64 0)), .d (.v (.int .i64 0)), .d (.v (.int .i64 0)), .d (.v (.int .i64 0)), .d (.v (.int .i64 0)), .d (.v (.int .i64 0)), .d (.v (.int .i64 0)), .d (.v (.int .i64 0)), .d (.v (.int .i64 0)), .d (.v (.int .i64 0)), .d (.v (.int .i64 0)), .d (.v (.int .i64 0)), .d (.v (.int .i64 0)), .d (.v (.int .i64 0)), .d (.v (.int .i64 0)), .d (.v (.int .i64 0)), .d (.v (.int .i64 0)), .d (.v (.int .i64 0)), .d (.v (.int .i64 0)), .d (.v (.int .i64 0)), .d (.v (.int .i64 0)), .d (.v (.int .i64 0)), .d (.v (.int .i64 0)), .d (.v (.int .i64 0)), .d (.v (.int .i64 0)), .d (.v (.int .i64 0)), .d (.v (.int .i64 0)), .d (.v (.int .i64 0)), .d (.v (.int .i64 0)), .d (.v (.int .i64 0)), .d (.v (.int .i64 0)), .d (.v (.int .i64 0)), .d (.v (.int .i64 0)), .d (.v (.int .i64 0)), .d (.v (.int .i64 0)), .d (.v (.int .i64 0)), .d (.v (.int .i64 0)), .d (.v (.int .i64 0)), .d (.v (.int .i64 0)), .d (.v (.int .i64 0)), .d (.v (.int .i64 0)), .d (.v (.int .i64 0)), .d (.v (.int .i64 0)), .d (.v (.int .i64 0)), .d (.v (.int .i64 0)), .d (.v (.bool false)), .d (.v (.int .i64 2)), .d (.v (.int .i64 5))] : List AV) = (fcs (voF c) 0 57).map AV.d := rfl
theorem AD_ : fup (voF 3) 0 2 = voF 2 := by
 funext i
 unfold fup voF
 split <;> rfl
theorem vl_ : Fn0 Tryz.prog 17 [] (.v (.bool true)) := by
 have v1 := jz_ (rawL [sB2, sA, voF 3]) false 40 (by simp [rawL]) (ba_ et_ b7_ kR_) (by have := (aQ_ (ba_ et_ b7_ kR_)).2.2.1; simp [rawL] at this ⊢; omega) (fun f hf => ((aQ_ (ba_ et_ b7_ kR_)).2.2.2 f hf).1)
 rw [AH_] at v1
 have v2 := jz_ (rawL [sB2, sA, voF 2]) false 40 (by simp [rawL]) (ba_ et_ b7_ ei_) (by have := (aQ_ (ba_ et_ b7_ ei_)).2.2.1; simp [rawL] at this ⊢; omega) (fun f hf => ((aQ_ (ba_ et_ b7_ ei_)).2.2.2 f hf).1)
 rw [AG_] at v2
 have v3 := jz_ (rawL [sB2, sA, voF 2]) false 29 (by simp [rawL]) (ba_ et_ b7_ ei_) (by have := (aQ_ (ba_ et_ b7_ ei_)).2.2.1; simp [rawL] at this ⊢; omega) (fun f hf => ((aQ_ (ba_ et_ b7_ ei_)).2.2.2 f hf).1)
 rw [AF_] at v3
 have new1 : Fun Tryz.prog 18 [.d nilD, .row 1000] [(1000, .row 70 61 1 ((fcs sA 0 57 ++ zs).map .d))] (.d (.tup [.agg [nilD], .v (.int .i64 (sR_ sA))])) [] fun _ => False :=
  a1_ 1000 (T := 70) (cs := fcs sA 0 57 ++ zs) (vM_ sA false b7_ (by decide)) rfl (by simp [iK_, frz, sgC]) trivial
 have hone : ∀ c, ((∃ a, a ∈ fcs (shF 2 5 10) 0 57 ∧ AV.d a = c) ∨ ∃ a, a ∈ zs ∧ AV.d a = c) → oneA c = true := by
  rintro c (⟨a, h, rfl⟩ | ⟨a, h, rfl⟩)
  ·exact fcs_side h
  ·exact (by decide : ∀ d ∈ zs, oneD d = true) a h
 have same1 : Fn0 Tryz.prog 55 [fD sA, fD sA] (.v (.bool true)) := by
  have := vm_ sA sA b7_ b7_
  rwa [(eH_ b7_ b7_).2 rfl] at this
 have raw1 : Fn0 Tryz.prog 54 [.sl 57 (fcs sA 0 57) 1 false] (lgD (rawL [sA]) false) := by
  have := q1_ [sA] (by simp) (fun f hf => by rw [List.mem_singleton] at hf; subst hf; exact b7_)
  simpa [fsC] using this
 have hv4 : ∀ p ∈ rawL [sA], sgOk p := nk_ fun f hf => by rw [List.mem_singleton] at hf; subst hf; exact b7_
 have v4 := jz_ (rawL [sA]) false 9 (by simp [rawL]) hv4 (by have := (aQ_ hv4).2.2.1; simp [rawL] at this ⊢; omega) (fun f hf => ((aQ_ hv4).2.2.2 f hf).1)
 rw [AE_] at v4
 have o1 : fOk (shF 3 4 1) := ge_ (av_ (by omega)) (av_ (by omega)) (av_ (by omega))
 have o2 : fOk (shF 3 2 1) := ge_ (av_ (by omega)) (av_ (by omega)) (av_ (by omega))
 have o3 : fOk (shF 3 1 5) := ge_ (av_ (by omega)) (av_ (by omega)) (av_ (by omega))
 have raw5 : Fn0 Tryz.prog 54 [.sl 57 (fcs (shF 3 4 1) 0 57 ++ (fcs (shF 3 2 1) 0 57 ++ fcs (shF 3 1 5) 0 57)) 3 false] (lgD (rawL [shF 3 4 1, shF 3 2 1, shF 3 1 5]) false) := by
  have := q1_ [shF 3 4 1, shF 3 2 1, shF 3 1 5] (by simp) (fun f hf => by
   simp only [List.mem_cons, List.not_mem_nil, or_false] at hf
   rcases hf with rfl | rfl | rfl <;> assumption)
  simpa [fsC] using this
 have hv5 := ba_ o1 o2 o3
 have c5 := nC_ (rawL [shF 3 4 1, shF 3 2 1, shF 3 1 5]) false 3 (av_ (by omega)) (by simp [rawL]) hv5 (by have := (aQ_ hv5).2.2.1; simp [rawL] at this ⊢; omega) (fun f hf => ((aQ_ hv5).2.2.2 f hf).1)
 rw [BU_] at c5
 refine ac_ (pn := ap_) aa_ Tryz.func17 rfl fun β0 => ?_
 simp only [Tryz.f17]
 repeat(first|apply wG|(apply wR;simp -dsimp)|refine aI ?_)
 refine ad_ cp_ (eZ_ 2 5 10) rfl rfl (by simp) ?_
 simp -dsimp
 repeat(first|apply wG|(apply wR;simp -dsimp)|refine aI ?_)
 refine ad_ cp_ (eZ_ 2 5 20) rfl rfl (by simp) ?_
 simp -dsimp [fD]
 repeat(first|apply wG|(apply wR;simp -dsimp [u1_, AD_, AB_, sp_])|refine aI ?_)
 refine vcStop.call co_ (AK_ sB2 sA (voF 3) et_ b7_ kR_) (rl [(1000, 21)]) rfl rfl (by simp [sA, sB2, BoxLeq]) (aj_ (by simp [sA, sB2, BoxLeq]) rfl (by first | rfl | (simp [sA, sB2, BoxLeq]; done)) (by simp [sA, sB2, BoxLeq]) (by simp [sA, sB2, BoxLeq])) (fun _ h => h.elim) (fun ⟨_, h⟩ => h.elim) (fun ⟨_, h⟩ => h.elim) (by simp [sA, sB2, BoxLeq]) ?_
 simp -dsimp
 repeat(first|apply wG|(apply wR;simp -dsimp)|refine aI ?_)
 refine ad_ dj_ v1 rfl rfl (by simp) ?_
 simp -dsimp
 repeat(first|apply wG|(apply wR;simp -dsimp [u1_, AD_, AB_, sp_])|refine aI ?_)
 refine vcStop.call co_ (AK_ sB2 sA (voF 2) et_ b7_ ei_) (rl [(1000, 27)]) rfl rfl (by simp [sA, sB2, BoxLeq]) (aj_ (by simp [sA, sB2, BoxLeq]) rfl (by first | rfl | (simp [sA, sB2, BoxLeq]; done)) (by simp [sA, sB2, BoxLeq]) (by simp [sA, sB2, BoxLeq])) (fun _ h => h.elim) (fun ⟨_, h⟩ => h.elim) (fun ⟨_, h⟩ => h.elim) (by simp [sA, sB2, BoxLeq]) ?_
 simp -dsimp
 repeat(first|apply wG|(apply wR;simp -dsimp)|refine aI ?_)
 refine ad_ dj_ v2 rfl rfl (by simp) ?_
 simp -dsimp
 repeat(first|apply wG|(apply wR;simp -dsimp [u1_, AD_, AB_, sp_])|refine aI ?_)
 refine vcStop.call co_ (AK_ sB2 sA (voF 2) et_ b7_ ei_) (rl [(1000, 33)]) rfl rfl (by simp [sA, sB2, BoxLeq]) (aj_ (by simp [sA, sB2, BoxLeq]) rfl (by first | rfl | (simp [sA, sB2, BoxLeq]; done)) (by simp [sA, sB2, BoxLeq]) (by simp [sA, sB2, BoxLeq])) (fun _ h => h.elim) (fun ⟨_, h⟩ => h.elim) (fun ⟨_, h⟩ => h.elim) (by simp [sA, sB2, BoxLeq]) ?_
 simp -dsimp
 repeat(first|apply wG|(apply wR;simp -dsimp)|refine aI ?_)
 refine ad_ dj_ v3 rfl rfl (by simp) ?_
 simp -dsimp
 repeat(first|apply wG|(apply wR;simp -dsimp [qk_, qN_])|refine aI ?_)
 refine And.intro ⟨rfl, hone⟩ ?_
 refine vcStop.call eR_ (new1) (rl [(1000, 39)]) rfl rfl (by simp [sA, BoxLeq]) (aj_ (by simp [sA, BoxLeq]) rfl (by first | rfl | (simp [sA, BoxLeq]; done)) (by simp [sA, BoxLeq]) (by simp [sA, BoxLeq])) (fun _ h => h.elim) (fun ⟨_, h⟩ => h.elim) (fun ⟨_, h⟩ => h.elim) (by simp [sA, BoxLeq]) ?_
 simp -dsimp
 repeat(first|apply wG|(apply wR;simp -dsimp)|refine aI ?_)
 refine ad_ eR_ vN_ rfl rfl (by simp) ?_
 simp -dsimp
 repeat(first|apply wG|(apply wR;simp -dsimp)|refine aI ?_)
 refine af_ nZ_ (fun _ => same1) rfl (fun _ => rfl) (fun hg => by simp [fD, sA, fsC]) ?_
 simp -dsimp
 repeat(first|apply wG|(apply wR;simp -dsimp)|refine aI ?_)
 refine cJ_ aa_ (ds := fcs sA 0 57) rfl rfl rfl rfl (LeqL.refl _) (by decide) (by decide) (by simp [f4_]; exact fun _ h => fcs_side h) ?_
 simp -dsimp
 repeat(first|apply wG|(apply wR;simp -dsimp)|refine aI ?_)
 refine af_ co_ (fun _ => raw1) rfl (fun _ => rfl) (fun hg => by simp) ?_
 simp -dsimp
 repeat(first|apply wG|(apply wR;simp -dsimp)|refine aI ?_)
 refine af_ dj_ (fun _ => v4) rfl (fun _ => rfl) (fun hg => by simp) ?_
 simp -dsimp
 repeat(first|apply wG|(apply wR;simp -dsimp)|refine aI ?_)
 refine af_ cp_ (fun _ => eZ_ 3 4 1) rfl (fun _ => rfl) (fun hg => by simp) ?_
 simp -dsimp
 repeat(first|apply wG|(apply wR;simp -dsimp)|refine aI ?_)
 refine af_ cp_ (fun _ => eZ_ 3 2 1) rfl (fun _ => rfl) (fun hg => by simp) ?_
 simp -dsimp
 repeat(first|apply wG|(apply wR;simp -dsimp)|refine aI ?_)
 refine af_ cp_ (fun _ => eZ_ 3 1 5) rfl (fun _ => rfl) (fun hg => by simp) ?_
 simp -dsimp [fD]
 repeat(first|apply wG|(apply wR;simp -dsimp)|refine aI ?_)
 refine cJ_ aa_ (ds := fcs (shF 3 4 1) 0 57 ++ (fcs (shF 3 2 1) 0 57 ++ fcs (shF 3 1 5) 0 57)) rfl rfl rfl rfl (LeqL.refl _) (by decide) (by decide) (by simp [f4_, cZ_]; exact ⟨fun _ h => fcs_side h, fun _ h => fcs_side h, fun _ h => fcs_side h⟩) ?_
 simp -dsimp
 repeat(first|apply wG|(apply wR;simp -dsimp)|refine aI ?_)
 refine af_ co_ (fun _ => raw5) rfl (fun _ => rfl) (fun hg => by simp) ?_
 simp -dsimp
 repeat(first|apply wG|(apply wR;simp -dsimp)|refine aI ?_)
 refine af_ nY_ (fun _ => c5) rfl (fun _ => rfl) (fun hg => by simp) ?_
 simp -dsimp
 repeat(first|apply wG|(apply wR;simp -dsimp)|refine aI ?_)
 refine af_ bl_ (fun _ => fw_) rfl (fun _ => rfl) (fun hg => by simp) ?_
 simp -dsimp
 repeat(first|apply wG|(apply wR;simp -dsimp)|refine aI ?_)
 have hoe : decide (sR_ sA = 0) = false := decide_eq_false (by unfold sR_; split <;> decide)
 refine WP.ret (ab_ ?_)
 simp -dsimp [hoe]
end Go.Proofs.YtnljenjcaeophaaGreatDoor
