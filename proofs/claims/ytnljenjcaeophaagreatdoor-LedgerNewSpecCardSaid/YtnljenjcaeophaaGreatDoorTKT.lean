/-
  Joined texts.
-/
import Derived.Test.YtnljenjcaeophaaGreatDoorTW
import Derived.Test.YtnljenjcaeophaaGreatDoorTB
import Derived.Test.YtnljenjcaeophaaGreatDoorTZ
import Derived.Test.YtnljenjcaeophaaGreatDoorTJ
set_option maxRecDepth 10000
set_option maxHeartbeats 4000000
set_option linter.unusedVariables false
set_option linter.unusedSimpArgs false
set_option linter.unusedSectionVars false
namespace Go.Proofs.YtnljenjcaeophaaGreatDoor
open Go.Xe Go.RowKit
theorem vF_in {l : List Sg} {f : F} : f ∈ vF l ↔ (∃ p ∈ l, p.1 = f) ∧ (numF f).2 = true := by
 simp only [vF, List.mem_filter, List.mem_map]
theorem valL_facts {l : List Sg} (hv : ∀ p ∈ l, sgOk p) : (∀ f, f ∈ valL l ↔ f ∈ vF l) ∧ (valL l).Pairwise (fun a b => cmpF a b < 0) ∧ (valL l).length ≤ l.length ∧ ∀ f ∈ valL l, vOk f := by
 have hvo : ∀ f ∈ vF l, vOk f := fun f hf => by
  obtain ⟨⟨p, hp, rfl⟩, h⟩ := vF_in.1 hf
  exact ⟨(hv p hp).1, h⟩
 have hk := kOf_val fun f hf => (hvo f hf).1
 obtain ⟨hp, hs⟩ := insL_ok swo_cmp ((vF l).map kOf)
 have hL : ((sortK ((vF l).map kOf)).map (·.1)).Perm (vF l) := by
  have := hp.map (·.1)
  rw [hk] at this
  exact this
 have hs2 : ((sortK ((vF l).map kOf)).map (·.1)).Pairwise fun a b => cmpF a b ≤ 0 := by
  rw [List.pairwise_map]
  refine hs.imp fun {a b} h => ?_
  rw [ltK, decide_eq_false_iff_not] at h
  have := cmp_fact.anti a.1 b.1
  omega
 have hvL : ∀ f ∈ (sortK ((vF l).map kOf)).map (·.1), vOk f := fun f hf => hvo f (hL.mem_iff.1 hf)
 have hmem : ∀ f, f ∈ valL l ↔ f ∈ vF l := fun f => (cmpt_mem hvL hs2 f).trans hL.mem_iff
 refine ⟨hmem, cmpt_asc hvL hs2, ?_, fun f hf => hvo f ((hmem f).1 hf)⟩
 have h1 : (valL l).length ≤ ((sortK ((vF l).map kOf)).map (·.1)).length := cN_len _ _
 rw [hL.length_eq] at h1
 exact Nat.le_trans h1 (vF_len l)
def firstB (l : List Sg) (t : Int) (f : F) : Prop := f 2 ≤ t ∧ (numF f).2 = true ∧ ∀ p ∈ l, refF p.1 = refF f → (numF p.1).2 = true → ¬ cmpF p.1 f < 0
theorem force_iff {l : List Sg} (hv : ∀ p ∈ l, sgOk p) (t : Int) (f : F) : f ∈ viewL t (valL l) ↔
  (∃ p ∈ l, p.1 = f) ∧ firstB l t f ∧ f 3 ≠ 13 ∧ ∀ p ∈ l, ¬ (p.1 3 = 13 ∧ firstB l t p.1 ∧ p.1 0 ≤ f 0 ∧ (p.1 55, p.1 56) = refF f) := by
 obtain ⟨h1, h2, _, _⟩ := valL_facts hv
 rw [view_iff h2]
 constructor
 ·rintro ⟨⟨ha, hb, hc⟩, hd, he⟩
  obtain ⟨hx, hn⟩ := vF_in.1 ((h1 f).1 ha)
  refine ⟨hx, ⟨hb, hn, fun p hp hr hq => hc p.1 ((h1 _).2 (vF_in.2 ⟨⟨p, hp, rfl⟩, hq⟩)) hr⟩, hd, fun p hp => ?_⟩
  rintro ⟨g1, ⟨g2, g3, g4⟩, g5, g6⟩
  refine he p.1 ((h1 _).2 (vF_in.2 ⟨⟨p, hp, rfl⟩, g3⟩)) g2 (fun h hh hr => ?_) ⟨g1, g5, g6⟩
  obtain ⟨⟨q, hq, rfl⟩, hqn⟩ := vF_in.1 ((h1 h).1 hh)
  exact g4 q hq hr hqn
 ·rintro ⟨hx, ⟨hb, hn, hc⟩, hd, he⟩
  refine ⟨⟨(h1 f).2 (vF_in.2 ⟨hx, hn⟩), hb, fun g hg hr => ?_⟩, hd, fun g hg g2 g4 => ?_⟩
  ·obtain ⟨⟨q, hq, rfl⟩, hqn⟩ := vF_in.1 ((h1 g).1 hg)
   exact hc q hq hr hqn
  ·rintro ⟨g1, g5, g6⟩
   obtain ⟨⟨q, hq, rfl⟩, hqn⟩ := vF_in.1 ((h1 g).1 hg)
   exact he q hq ⟨g1, ⟨g2, hqn, fun p hp hr hpn => g4 p.1 ((h1 _).2 (vF_in.2 ⟨⟨p, hp, rfl⟩, hpn⟩)) hr⟩, g5, g6⟩
theorem view_asc {l : List Sg} (hv : ∀ p ∈ l, sgOk p) (t : Int) : (viewL t (valL l)).Pairwise fun a b => cmpF a b < 0 := (valL_facts hv).2.1.sublist (view_sub t _)
def vds (r : List F) : Nat → List (Int × Int)
 | 0 => []
 | i + 1 => if voidB (fat r i) = true then addRef (vds r i) (fat r i 55, fat r i 56) else vds r i
theorem vds_in (r : List F) (p : Int × Int) : ∀ i, i ≤ r.length → (p ∈ vds r i ↔ ∃ g ∈ r.take i, voidB g = true ∧ (g 55, g 56) = p)
 | 0, _ => by simp [vds]
 | i + 1, h => by
  rw [vds, take_fat (by omega)]
  have ih := vds_in r p i (by omega)
  split
  ·rename_i hv
   rw [addRef_in, ih]
   constructor
   ·rintro (⟨g, h1, h2, h3⟩ | rfl)
    ·exact ⟨g, List.mem_append.2 (.inl h1), h2, h3⟩
    ·exact ⟨_, by simp, hv, rfl⟩
   ·rintro ⟨g, h1, h2, h3⟩
    rcases List.mem_append.1 h1 with h1 | h1
    ·exact .inl ⟨g, h1, h2, h3⟩
    ·rw [List.mem_singleton] at h1; subst h1; exact .inr h3.symm
  ·rename_i hv
   rw [ih]
   constructor
   ·rintro ⟨g, h1, h2, h3⟩; exact ⟨g, List.mem_append.2 (.inl h1), h2, h3⟩
   ·rintro ⟨g, h1, h2, h3⟩
    rcases List.mem_append.1 h1 with h1 | h1
    ·exact ⟨g, h1, h2, h3⟩
    ·rw [List.mem_singleton] at h1; subst h1; exact absurd h2 hv
theorem vds_all (r : List F) (p : Int × Int) : p ∈ vds r r.length ↔ p ∈ voidsL r := by
 rw [vds_in r p _ (Nat.le_refl _), List.take_length, voids_iff]
 simp only [voidB, Bool.and_eq_true, decide_eq_true_eq]
 constructor
 ·rintro ⟨g, h1, ⟨h2, h3⟩, h4⟩; exact ⟨g, h1, h2, h3, h4⟩
 ·rintro ⟨g, h1, h2, h3, h4⟩; exact ⟨g, h1, ⟨h2, h3⟩, h4⟩
theorem vds_I {r : List F} (hr : ∀ f ∈ r, fOk f) : ∀ i, i ≤ r.length → refsI (vds r i)
 | 0, _ => fun _ h => by cases h
 | i + 1, h => by
  rw [vds]
  have := hr _ (fat_in (show i < r.length by omega))
  split
  ·exact refsI_add (vds_I hr i (by omega)) (this.1 55) (this.1 56)
  ·exact vds_I hr i (by omega)
def bs1 (r : List F) (i : Nat) : Bxs := [(1100, .cells 110 [.row 1101]), (1101, .mp (refsM (vds r i)))]
theorem bs1_singles (r : List F) (i : Nat) : singles (bs1 r i) := by
 intro k b h
 simp only [bs1, getB] at h
 (repeat' split at h) <;> cases h <;> rfl
def keep (V : List (Int × Int)) (f : F) : Bool := !decide (f 3 = 13) && !decide (refF f ∈ V)
def bs2 (V : List (Int × Int)) : List F → Bxs
 | [] => [(1100, .cells 110 [.row 1101]), (1101, .mp (refsM V)), (1102, .cells 115 [.d nilD])]
 | f :: r => [(1100, .cells 110 [.row 1101]), (1101, .mp (refsM V)), (1102, .cells 115 [.row 505]), (505, rB (f :: r))]
theorem bs2_singles (V : List (Int × Int)) (l : List F) : singles (bs2 V l) := by
 intro k b h
 cases l <;> simp only [bs2, getB] at h <;> (repeat' split at h) <;> cases h <;> rfl
theorem recS_ok {t : Int} {l : List F} (h : ∀ f ∈ l, fOk f) : ∀ f ∈ recS t l [], fOk f := fun f hf => h f ((recS_sub t l []).subset hf)
theorem view_ok (l : List Sg) (b : Bool) (t : Int) (hl : l.length ≤ 14) (hv : ∀ p ∈ l, sgOk p) (hal : (valL l).length ≤ 14) (hao : ∀ f ∈ valL l, fOk f) : Fn0 Tryz.prog 53 [lgD l b, .v (.int .i64 t)] (slF (viewL t (valL l))) := by
 refine Fun.of_wpR Tryz.tab Tryz.func53 rfl fun β0 => ?_
 simp only [Tryz.f53]
 repeat(first|apply wG|(apply wR;simp -dsimp)|refine aI ?_)
 refine vcStop.call0L Tryz.body100 (valid_ok l b hl hv) rfl rfl (And.intro (Leq.aggD [sgD l b]) trivial) ?_
 generalize valL l = all at hal hao
 simp -dsimp
 repeat(first|apply wG|(apply wR;simp -dsimp)|refine aI ?_)
 refine vcStop.makeMap 11 rfl (by simp) ?_
 simp -dsimp
 repeat(first|apply wG|(apply wR;simp -dsimp)|refine aI ?_)
 refine vcStop.call Tryz.body101 (recorded_ok all t) (rl [(0, 600), (1, 601)]) rfl rfl (by simp [BoxLeq]) (CallOk.of (by simp [BoxLeq]) rfl (by first | rfl | (simp [BoxLeq]; done)) (by simp [BoxLeq]) (by simp [BoxLeq])) (fun _ h => h.elim) (fun ⟨_, h⟩ => h.elim) (fun ⟨_, h⟩ => h.elim) (by simp [BoxLeq]) ?_
 simp -dsimp
 repeat(first|apply wG|(apply wR;simp -dsimp)|refine aI ?_)
 have hro := recS_ok (t := t) hao
 refine WP.rangeFuncE Tryz.body160 (recorded_it all t hal hao) (jump := fun _ => none) (bs1 (recS t all [])) (mkS 52 [(6, .ptr 1100 0)] []).sl 990 (rl [(1000, 600), (1001, 601), (1100, 6), (1101, 11), (990, 602)]) rfl rfl rfl (by simp) (by simp) (by simp) (fun i _ => bs1_singles _ i)
  (by simp [bs1]) (by simp) (by simp [bs1]) (by simp) (by decide) (by simp [bs1]) (fun _ _ => rfl) (fun _ _ => rfl) ?_ (fun G => CallOk.of (by simp [bs1, vds, refsM]) (by simp [bs1]) (by simp [bs1]) (by simp [bs1]) (by simp [bs1])) (fun G => by simp [bs1]) ?_
 ·intro i hi lp β1
  have hfo := hro _ (fat_in hi)
  have hI := vds_I hro i (by omega)
  have hvs : vds (recS t all []) (i + 1) = if voidB (fat (recS t all []) i) = true then addRef (vds (recS t all []) i) (fat (recS t all []) i 55, fat (recS t all []) i 56) else vds (recS t all []) i := rfl
  generalize fat (recS t all []) i = f at hfo hvs
  obtain ⟨lk, hlk⟩ := ref_key (r := (f 55, f 56)) (hfo.1 55) (hfo.1 56)
  simp -dsimp [bs1, fD]
  generalize vds (recS t all []) i = V at hI hvs ⊢
  repeat(first|apply wG|(apply wR;simp -dsimp)|refine aI ?_)
  refine WP.cond (b := voidB f) (by simp [voidB]) (fun hb => ?_) (fun hb => ?_)
  ·rw [if_pos hb] at hvs
   repeat(first|apply wG|(apply wR;simp -dsimp)|refine aI ?_)
   refine vcStop.mapPut Tryz.tab rfl rfl ref_keyed (j := 1101) rfl (kvs := refsM V) (refsM (addRef V (f 55, f 56))) rfl (key := refV (f 55, f 56)) (ref_leq _ _) (d := .v (.bool true)) (.refl _) hlk (refs_keys hI) (refs_put V _) ?_
   simp -dsimp
   repeat(first|apply wG|(apply wR;simp -dsimp)|refine aI ?_)
   exact ⟨mkS 52 [] (bs1 (recS t all []) (i + 1)), Wk.lessE [7] (by simp) (by simp [bs1, hvs]), subB_ok (by simp [bs1])⟩
  ·rw [if_neg (by simp [hb])] at hvs
   refine WP.skip ?_
   simp -dsimp
   repeat(first|apply wG|(apply wR;simp -dsimp)|refine aI ?_)
   exact ⟨mkS 52 [] (bs1 (recS t all []) (i + 1)), Wk.lessE [7] (by simp) (by simp [bs1, hvs]), subB_ok (by simp [bs1])⟩
 ·intro G
  have hI := vds_I hro _ (Nat.le_refl _)
  have hVw : viewL t all = (recS t all []).filter (keep (vds (recS t all []) (recS t all []).length)) := by
   unfold viewL
   refine List.filter_congr fun f _ => ?_
   unfold keep
   congr 2
   rw [Bool.eq_iff_iff, decide_eq_true_eq, decide_eq_true_eq, vds_all]
  have hit := recorded_it all t hal hao
  have hrl : (recS t all []).length ≤ 14 := by have := (recS_sub t all []).length_le; omega
  rw [pendOf_none, endQ_none]
  simp -dsimp [bs1]
  repeat(first|apply wG|(apply wR;simp -dsimp)|refine aI ?_)
  rw [hVw]
  generalize recS t all [] = r at hro hI hit hrl
  generalize vds r r.length = V at hI
  refine vcStop.call Tryz.body101 (recorded_ok all t) (rl [(0, 603), (1, 604)]) rfl rfl (by simp [BoxLeq]) (CallOk.of (by simp [BoxLeq]) rfl (by first | rfl | (simp [BoxLeq]; done)) (by simp [BoxLeq]) (by simp [BoxLeq])) (fun _ h => h.elim) (fun ⟨_, h⟩ => h.elim) (fun ⟨_, h⟩ => h.elim) (by simp [BoxLeq]) ?_
  simp -dsimp
  repeat(first|apply wG|(apply wR;simp -dsimp)|refine aI ?_)
  refine WP.rangeFuncE Tryz.body160 hit (jump := fun _ => none) (fun i => bs2 V ((r.take i).filter (keep V))) (mkS 52 [(4, .ptr 1102 0), (6, .ptr 1100 0)] []).sl 990 (rl [(1000, 603), (1001, 604), (1100, 6), (1101, 11), (1102, 4), (505, 700), (990, 605)]) rfl rfl rfl (by simp) (by simp) (by simp) (fun i _ => bs2_singles _ _)
   (by cases (r.take r.length).filter (keep V) <;> simp [bs2]) (by simp) (by cases (r.take r.length).filter (keep V) <;> simp [bs2]) (by simp) (by decide) (by cases (r.take r.length).filter (keep V) <;> simp [bs2]) (fun _ _ => rfl) (fun _ _ => rfl) ?_ (fun G => CallOk.of (by simp [bs2]) (by cases (r.take r.length).filter (keep V) <;> simp [bs2]) (by cases (r.take r.length).filter (keep V) <;> simp [bs2]) (by cases (r.take r.length).filter (keep V) <;> simp [bs2]) (by cases (r.take r.length).filter (keep V) <;> simp [bs2])) (fun G => by cases (r.take r.length).filter (keep V) <;> simp [bs2]) ?_
  ·intro i hi lp β1
   have hfo := hro _ (fat_in hi)
   have ht : (r.take (i + 1)).filter (keep V) = (r.take i).filter (keep V) ++ if keep V (fat r i) = true then [fat r i] else [] := by
    rw [take_fat hi, List.filter_append]
    congr 1
    simp only [List.filter_cons, List.filter_nil]
   have hol : ((r.take i).filter (keep V)).length ≤ 14 := by
    have h1 := List.length_filter_le (keep V) (r.take i)
    rw [List.length_take] at h1
    omega
   rw [ht]
   generalize (r.take i).filter (keep V) = o at hol
   generalize fat r i = f at hfo
   obtain ⟨lk, hlk⟩ := ref_key (r := refF f) (hfo.1 0) (hfo.1 1)
   cases o with
   | nil =>
    simp -dsimp [bs2, fD]
    repeat(first|apply wG|(apply wR;simp -dsimp)|refine aI ?_)
    refine vcStopG.mapGet Tryz.tab rfl rfl ref_keyed Tryz.zeroValue4 (j := 1101) (fun hg => by simp [hg]) (kvs := refsM V) rfl (key := refV (refF f)) (fun hg => by simp [hg]; exact ref_leq _ _) (.v (.bool (decide (refF f ∈ V)))) hlk (refs_keys hI) (refs_get V (refF f)) ?_
    simp -dsimp
    repeat(first|apply wG|(apply wR;simp -dsimp)|refine aI ?_)
    refine WP.cond (b := keep V f) (by simp [keep]) (fun hb => ?_) (fun hb => ?_)
    ·repeat(first|apply wG|(apply wR;simp -dsimp)|refine aI ?_)
     exact ⟨mkS 52 [] (bs2 V ([f])), Wk.go [8, 49] 50 505 (by decide) (by simp) (by simp) (by simp [bs2, hb, fsC]), subB_ok (by simp [bs2, hb])⟩
    ·refine WP.skip ?_
     simp -dsimp
     repeat(first|apply wG|(apply wR;simp -dsimp)|refine aI ?_)
     exact ⟨mkS 52 [] (bs2 V ([])), Wk.lessE [8] (by simp) (by simp [bs2, hb]), subB_ok (by simp [bs2, hb])⟩
   | cons g o =>
    have hol' : o.length + 1 ≤ 14 := by simpa using hol
    simp -dsimp [bs2, fD]
    repeat(first|apply wG|(apply wR;simp -dsimp)|refine aI ?_)
    refine vcStopG.mapGet Tryz.tab rfl rfl ref_keyed Tryz.zeroValue4 (j := 1101) (fun hg => by simp [hg]) (kvs := refsM V) rfl (key := refV (refF f)) (fun hg => by simp [hg]; exact ref_leq _ _) (.v (.bool (decide (refF f ∈ V)))) hlk (refs_keys hI) (refs_get V (refF f)) ?_
    simp -dsimp
    repeat(first|apply wG|(apply wR;simp -dsimp)|refine aI ?_)
    refine WP.cond (b := keep V f) (by simp [keep]) (fun hb => ?_) (fun hb => ?_)
    ·repeat(first|apply wG|(apply wR;simp -dsimp)|refine aI ?_)
     exact ⟨mkS 52 [] (bs2 V (g :: o ++ [f])), Wk.go [8, 49] 50 505 (by decide) (by simp) (by simp) (by simp [bs2, hb, fsC]), subB_ok (by simp [bs2, hb])⟩
    ·refine WP.skip ?_
     simp -dsimp
     repeat(first|apply wG|(apply wR;simp -dsimp)|refine aI ?_)
     exact ⟨mkS 52 [] (bs2 V (g :: o)), Wk.lessE [8] (by simp) (by simp [bs2, hb]), subB_ok (by simp [bs2, hb])⟩
  ·intro G2
   rw [pendOf_none, endQ_none, List.take_length]
   generalize r.filter (keep V) = o
   cases o with
   | nil =>
    simp -dsimp [bs2]
    repeat(first|apply wG|(apply wR;simp -dsimp)|refine aI ?_)
    refine WP.ret (finQR.retW2 ((Wk.lessE [] (S' := mkS 52 [(4, .ptr 4 0)] [(602, .obj G (.deferred (some []))), (4, .cells 115 [.d nilD]), (605, .obj G2 (.deferred (some [])))] [G2, G]) (by simp) (by simp)).trans ((Wk.nilCell 4 0 500 65 57 (by simp; exact ⟨rfl, rfl⟩) rfl (by simp)).trans (Wk.freeze (k := 500) (T := 65) (sz := 57) (n := 0) (ds := []) (by simp)))) ?_ G2 605 G 602 (by decide) rfl rfl rfl rfl rfl)
    simp -dsimp
   | cons g o =>
    simp -dsimp [bs2]
    repeat(first|apply wG|(apply wR;simp -dsimp)|refine aI ?_)
    refine WP.ret (finQR.retW2 ((Wk.lessE [] (S' := mkS 52 [(4, .ptr 4 0)] [(602, .obj G (.deferred (some []))), (4, .cells 115 [.row 700]), (700, rB (g :: o)), (605, .obj G2 (.deferred (some [])))] [G2, G]) (by simp) (by simp)).trans (Wk.freeze (k := 700) (T := 65) (sz := 57) (n := (g :: o).length) (ds := fsC (g :: o)) (by simp))) ?_ G2 605 G 602 (by decide) rfl rfl rfl rfl rfl)
    simp -dsimp
def aheadB (f g : F) : Bool := (decide (g 0 = f 0) && decide (g 1 = f 1)) && (numF g).2 && decide (cmpF g f < 0)
def firstD (l : List Sg) (t : Int) (f : F) : Bool := l.all (fun p => !aheadB f p.1) && (decide (f 2 ≤ t) && (numF f).2)
theorem firstD_iff {l : List Sg} {t : Int} {f : F} : firstD l t f = true ↔ firstB l t f := by
 simp only [firstD, firstB, aheadB, refF, Bool.and_eq_true, List.all_eq_true, Bool.not_eq_true', Bool.and_eq_false_iff, decide_eq_true_eq, decide_eq_false_iff_not, Prod.mk.injEq]
 constructor
 ·rintro ⟨h1, h2, h3⟩
  refine ⟨h2, h3, fun p hp hr hn hc => ?_⟩
  rcases h1 p hp with (((h | h) | h) | h)
  ·exact h hr.1
  ·exact h hr.2
  ·rw [hn] at h; cases h
  ·exact h hc
 ·rintro ⟨h2, h3, h1⟩
  refine ⟨fun p hp => ?_, h2, h3⟩
  by_cases a : p.1 0 = f 0
  ·by_cases b : p.1 1 = f 1
   ·cases hn : (numF p.1).2 with
    | false => exact .inl (.inr rfl)
    | true => exact .inr (h1 p hp ⟨a, b⟩ hn)
   ·exact .inl (.inl (.inr b))
  ·exact .inl (.inl (.inl a))
theorem rawL_ok {l : List F} (h : ∀ f ∈ l, fOk f) : ∀ p ∈ rawL l, sgOk p := fun p hp => by
 obtain ⟨f, hf, rfl⟩ := List.mem_map.1 hp
 exact ⟨h f hf, rfl, (by decide : ∀ d ∈ zs, oneD d = true)⟩
theorem rawL_len (l : List F) : (rawL l).length = l.length := by simp [rawL]
def rS (l : List F) : List F → St
 | [] => mkS 20 [(2, .ptr 2 0), (5, .d (slF l)), (6, .d (.v (.int .i64 l.length))), (7, .d (.v (.int .i64 0)))] [(2, .cells 25 [.d nilD])]
 | f :: r => mkS 20 [(2, .ptr 2 0), (5, .d (slF l)), (6, .d (.v (.int .i64 l.length))), (7, .d (.v (.int .i64 ((f :: r).length : Nat))))] [(2, .cells 25 [.row 505]), (505, .row 70 61 (f :: r).length ((sgC (rawL (f :: r))).map .d))]
theorem sgC_raw (l : List F) (f : F) : sgC (rawL (l ++ [f])) = sgC (rawL l) ++ (fcs f 0 57 ++ zs) := by simp [sgC, rawL]
theorem zero61 : ([.d (.v (.int .i64 0)), .d (.v (.int .i64 0)), .d (.v (.int .i64 0)), .d (.v (.int .i64 0)), .d (.v (.int .i64 0)), .d (.v (.int .i64 0)), .d (.v (.int .i64 0)), .d (.v (.int .i64 0)), .d (.v (.int .i64 0)), .d (.v (.int .i64 0)), .d (.v (.int .i64 0)), .d (.v (.int .i64 0)), .d (.v (.int .i64 0)), .d (.v (.int .i64 0)), .d (.v (.int .i64 0)), .d (.v (.int .i64 0)), .d (.v (.int .i64 0)), .d (.v (.int .i64 0)), .d (.v (.int .i64 0)), .d (.v (.int .i64 0)), .d (.v (.int .i64 0)), .d (.v (.int .i64 0)), .d (.v (.int .i64 0)), .d (.v (.int .i64 0)), .d (.v (.int .i64 0)), .d (.v (.int .i64 0)), .d (.v (.int .i64 0)), .d (.v (.int .i64 0)), .d (.v (.int .i64 0)), .d (.v (.int .i64 0)), .d (.v (.int .i64 0)), .d (.v (.int .i64 0)), .d (.v (.int .i64 0)), .d (.v (.int .i64 0)), .d (.v (.int .i64 0)), .d (.v (.int .i64 0)), .d (.v (.int .i64 0)), .d (.v (.int .i64 0)), .d (.v (.int .i64 0)), .d (.v (.int .i64 0)), .d (.v (.int .i64 0)), .d (.v (.int .i64 0)), .d (.v (.int .i64 0)), .d (.v (.int .i64 0)), .d (.v (.int .i64 0)), .d (.v (.int .i64 0)), .d (.v (.int .i64 0)), .d (.v (.int .i64 0)), .d (.v (.int .i64 0)), .d (.v (.int .i64 0)), .d (.v (.int .i64 0)), .d (.v (.int .i64 0)), .d (.v (.int .i64 0)), .d (.v (.int .i64 0)), .d (.v (.bool false)), .d (.v (.int .i64 0)), .d (.v (.int .i64 0)), .d (.v (.int .i64 0)), .d nilD, .d nilD, .d nilD] : List AV) = List.map AV.d (fcs f0 0 57) ++ List.map AV.d zs := rfl
theorem set61k (p : F) : setL (List.map AV.d (fcs f0 0 57) ++ List.map AV.d zs) 0 (List.map AV.d (fcs p 0 57)) = List.map AV.d (fcs p 0 57) ++ List.map AV.d zs := by
 rw [setL_eq _ _ _ (by rw [List.length_append, List.length_map, List.length_map, fcs_len57, fcs_len57]; omega), List.take_zero, List.nil_append, List.length_map, fcs_len57, Nat.zero_add, List.drop_append, List.length_map, fcs_len57, Nat.sub_self, List.drop_zero, List.drop_of_length_le (by rw [List.length_map, fcs_len57]; omega), List.nil_append]
theorem raw_ok (l : List F) (hl : l.length ≤ 14) (hf : ∀ f ∈ l, fOk f) : Fn0 Tryz.prog 54 [slF l] (lgD (rawL l) false) := by
 refine Fun.of_wp (pn := noPn) Tryz.tab Tryz.func54 rfl fun β0 => ?_
 simp only [Tryz.f54]
 repeat(first|apply wG|(apply wR;simp -dsimp)|refine aI ?_)
 refine WP.loopWk (fun m S => ∃ l1 l2, l = l1 ++ l2 ∧ m = l2.length ∧ S = rS l l1) l.length (S0 := rS l []) (Wk.lessE [] (by simp [rS]) (by simp [rS])) ⟨[], l, rfl, rfl, rfl⟩ ?_
 rintro _ _ ⟨l1, l2, hl12, rfl, rfl⟩
 cases l2 with
 | nil =>
  simp only [List.append_nil] at hl12
  subst hl12
  cases l with
  | nil =>
   rw [rS]
   simp -dsimp
   repeat(first|apply wG|(apply wR;simp -dsimp)|refine aI ?_)
   refine cF (by simp) ?_
   refine WP.exit ?_
   simp -dsimp
   repeat(first|apply wG|(apply wR;simp -dsimp)|refine aI ?_)
   refine WP.ret (finQ.retWE ((Wk.lessE [] (S' := mkS 20 [(2, .ptr 2 0)] [(2, .cells 25 [.d nilD])]) (by simp) (by simp)).trans ((Wk.nilCell 2 0 500 70 61 (by simp; exact ⟨rfl, rfl⟩) rfl (by simp)).trans (Wk.freeze (k := 500) (T := 70) (sz := 61) (n := 0) (ds := []) (by simp)))) ?_)
   simp -dsimp [rawL, sgC]
  | cons f r =>
   rw [rS]
   simp -dsimp
   repeat(first|apply wG|(apply wR;simp -dsimp)|refine aI ?_)
   refine cF (by simp) ?_
   refine WP.exit ?_
   simp -dsimp
   repeat(first|apply wG|(apply wR;simp -dsimp)|refine aI ?_)
   refine WP.ret (finQ.retWE ((Wk.lessE [] (S' := mkS 20 [(2, .ptr 2 0)] [(2, .cells 25 [.row 505]), (505, .row 70 61 (f :: r).length ((sgC (rawL (f :: r))).map .d))]) (by simp) (by simp)).trans (Wk.freeze (k := 505) (T := 70) (sz := 61) (n := (f :: r).length) (ds := sgC (rawL (f :: r))) (by simp))) ?_)
   simp -dsimp [rawL_len]
 | cons p l2 =>
  have hll : l.length = l1.length + (l2.length + 1) := by rw [hl12]; simp
  have e1 : IntKind.i64.wrap ((l1.length : Int) + 1) = (l1.length : Int) + 1 := IntWalk.i64_in _ (by omega)
  have h1 := fsC_at2 l1 p l2
  rw [← hl12] at h1
  have hzl : zs.length = 4 := rfl
  have hone : ∀ c, ((∃ a, a ∈ fcs p 0 57 ∧ AV.d a = c) ∨ ∃ a, a ∈ zs ∧ AV.d a = c) → oneA c = true := by
   rintro c (⟨a, h, rfl⟩ | ⟨a, h, rfl⟩)
   ·exact fcs_side h
   ·exact (by decide : ∀ d ∈ zs, oneD d = true) a h
  have hz : zs = [.v (.int .i64 0), nilD, nilD, nilD] := rfl
  cases l1 with
  | nil =>
   rw [rS]
   simp -dsimp
   repeat(first|apply wG|(apply wR;simp -dsimp)|refine aI ?_)
   refine cT (by simp; omega) ?_
   refine WP.skip ?_
   simp -dsimp
   refine WP.seq (WP.block ?_)
   simp only [List.length_nil, Nat.zero_mul, List.drop_zero] at h1
   repeat(first|apply wG|(apply wR;simp -dsimp [h1, zero61, set61k, hzl])|refine aI ?_)
   refine loopW.next (mkS 20 [(2, .ptr 2 0), (5, .d (slF l)), (6, .d (.v (.int .i64 l.length))), (7, .d (.v (.int .i64 (([p]).length : Nat))))] [(2, .cells 25 [.row 505]), (505, .row 70 61 ([p]).length ((sgC (rawL ([p]))).map .d))]) (Wk.go [4, 15] 16 505 (by decide) (by simp) (by simp [show IntKind.i64.wrap 1 = 1 by decide]) (by simp [sgC, rawL])) l2.length (by simp) ⟨[p], l2, by simp [hl12], rfl, rfl⟩
  | cons f r =>
   rw [rS]
   simp -dsimp
   repeat(first|apply wG|(apply wR;simp -dsimp)|refine aI ?_)
   refine cT (by simp; simp at hll; omega) ?_
   refine WP.skip ?_
   simp -dsimp
   refine WP.seq (WP.block ?_)
   simp only [List.length_cons] at h1
   repeat(first|apply wG|(apply wR;simp -dsimp [h1, zero61, set61k, hzl])|refine aI ?_)
   have e2 : IntKind.i64.wrap ((r.length : Int) + 1 + 1) = (r.length : Int) + 1 + 1 := by simpa using e1
   refine loopW.next (mkS 20 [(2, .ptr 2 0), (5, .d (slF l)), (6, .d (.v (.int .i64 l.length))), (7, .d (.v (.int .i64 ((f :: r ++ [p]).length : Nat))))] [(2, .cells 25 [.row 505]), (505, .row 70 61 (f :: r ++ [p]).length ((sgC (rawL (f :: r ++ [p]))).map .d))]) (Wk.go [4, 15, 505] 16 505 (by decide) (by simp) (by simp [e2]) (by rw [sgC_raw]; simp)) l2.length (by simp) ⟨f :: r ++ [p], l2, by simp [hl12], rfl, rfl⟩
def sA : F := shF 2 5 10
def sB2 : F := shF 2 5 20
def voF (c : Int) : F := fun i => if i = 0 then c else if i = 1 then 1 else if i = 2 then 30 else if i = 3 then 13 else if i = 55 then 2 else if i = 56 then 5 else 0
theorem voF_ok {c : Int} (h1 : isI c) : fOk (voF c) := by
 refine ⟨fun i => ?_, .inl rfl, fun i hi => ?_⟩
 ·unfold voF
  split
  ·exact h1
  ·(repeat' split) <;> first | exact isI0 | (unfold isI; omega)
 ·unfold voF
  rw [if_neg (by omega), if_neg (by omega), if_neg (by omega), if_neg (by omega), if_neg (by omega), if_neg (by omega)]
def forceD (l : List Sg) (t : Int) (f : F) : Bool := firstD l t f && !decide (f 3 = 13) && l.all fun p => !(decide (p.1 3 = 13) && firstD l t p.1 && decide (p.1 0 ≤ f 0) && (decide (p.1 55 = f 0) && decide (p.1 56 = f 1)))
theorem forceD_iff {l : List Sg} (hv : ∀ p ∈ l, sgOk p) (t : Int) (f : F) : f ∈ viewL t (valL l) ↔ (∃ p ∈ l, p.1 = f) ∧ forceD l t f = true := by
 rw [force_iff hv, forceD, Bool.and_eq_true, Bool.and_eq_true, firstD_iff, and_assoc]
 refine and_congr Iff.rfl (and_congr Iff.rfl (and_congr (by simp) ?_))
 rw [List.all_eq_true]
 refine forall_congr' fun p => forall_congr' fun hp => ?_
 rw [Bool.not_eq_true', ← Bool.not_eq_true, Bool.and_eq_true, Bool.and_eq_true, Bool.and_eq_true, Bool.and_eq_true, firstD_iff]
 simp only [decide_eq_true_eq, refF, Prod.mk.injEq, and_assoc]
theorem list_one {L : List F} {a : F} (hp : L.Pairwise fun a b => cmpF a b < 0) (h : ∀ x, x ∈ L ↔ x = a) : L = [a] := by
 have irr : ∀ a : F, ¬ cmpF a a < 0 := fun a h => by have := cmp_fact.anti a a; omega
 match L, hp, h with
 | [], _, h => exact absurd ((h a).2 rfl) (by simp)
 | [x], _, h => rw [(h x).1 (by simp)]
 | x :: y :: r, hp, h =>
  have hx := (h x).1 (by simp)
  have hy := (h y).1 (by simp)
  have := (List.pairwise_cons.1 hp).1 y (by simp)
  rw [hx, hy] at this
  exact absurd this (irr a)
theorem list_none {L : List F} (h : ∀ x, x ∉ L) : L = [] := List.eq_nil_iff_forall_not_mem.2 h
theorem isI_small {n : Int} (h : 0 ≤ n ∧ n ≤ 100) : isI n := by unfold isI; omega
theorem sA_ok : fOk sA := shF_ok (isI_small (by omega)) (isI_small (by omega)) (isI_small (by omega))
theorem sB_ok : fOk sB2 := shF_ok (isI_small (by omega)) (isI_small (by omega)) (isI_small (by omega))
theorem vo3_ok : fOk (voF 3) := voF_ok (isI_small (by omega))
theorem vo2_ok : fOk (voF 2) := voF_ok (isI_small (by omega))
theorem three_ok {a b c : F} (ha : fOk a) (hb : fOk b) (hc : fOk c) : ∀ p ∈ rawL [a, b, c], sgOk p := rawL_ok fun f hf => by
 simp only [List.mem_cons, List.not_mem_nil, or_false] at hf
 rcases hf with rfl | rfl | rfl <;> assumption
theorem view1 : viewL 40 (valL (rawL [sB2, sA, voF 3])) = [sA] := by
 have hv := three_ok sB_ok sA_ok vo3_ok
 refine list_one (view_asc hv 40) fun x => ?_
 rw [forceD_iff hv]
 constructor
 ·rintro ⟨⟨p, hp, rfl⟩, h⟩
  simp only [rawL, List.map_cons, List.map_nil, List.mem_cons, List.not_mem_nil, or_false] at hp
  rcases hp with rfl | rfl | rfl
  ·exact absurd (h.symm.trans (show forceD (rawL [sB2, sA, voF 3]) 40 sB2 = false by kernel_rfl)) (by decide)
  ·rfl
  ·exact absurd (h.symm.trans (show forceD (rawL [sB2, sA, voF 3]) 40 (voF 3) = false by kernel_rfl)) (by decide)
 ·rintro rfl
  exact ⟨⟨(sA, zs), by simp [rawL], rfl⟩, by kernel_rfl⟩
theorem view2 : viewL 40 (valL (rawL [sB2, sA, voF 2])) = [] := by
 have hv := three_ok sB_ok sA_ok vo2_ok
 refine list_none fun x => ?_
 rw [forceD_iff hv]
 rintro ⟨⟨p, hp, rfl⟩, h⟩
 simp only [rawL, List.map_cons, List.map_nil, List.mem_cons, List.not_mem_nil, or_false] at hp
 rcases hp with rfl | rfl | rfl
 ·exact absurd (h.symm.trans (show forceD (rawL [sB2, sA, voF 2]) 40 sB2 = false by kernel_rfl)) (by decide)
 ·exact absurd (h.symm.trans (show forceD (rawL [sB2, sA, voF 2]) 40 sA = false by kernel_rfl)) (by decide)
 ·exact absurd (h.symm.trans (show forceD (rawL [sB2, sA, voF 2]) 40 (voF 2) = false by kernel_rfl)) (by decide)
theorem view3 : viewL 29 (valL (rawL [sB2, sA, voF 2])) = [sA] := by
 have hv := three_ok sB_ok sA_ok vo2_ok
 refine list_one (view_asc hv 29) fun x => ?_
 rw [forceD_iff hv]
 constructor
 ·rintro ⟨⟨p, hp, rfl⟩, h⟩
  simp only [rawL, List.map_cons, List.map_nil, List.mem_cons, List.not_mem_nil, or_false] at hp
  rcases hp with rfl | rfl | rfl
  ·exact absurd (h.symm.trans (show forceD (rawL [sB2, sA, voF 2]) 29 sB2 = false by kernel_rfl)) (by decide)
  ·rfl
  ·exact absurd (h.symm.trans (show forceD (rawL [sB2, sA, voF 2]) 29 (voF 2) = false by kernel_rfl)) (by decide)
 ·rintro rfl
  exact ⟨⟨(sA, zs), by simp [rawL], rfl⟩, by kernel_rfl⟩
theorem view4 : viewL 9 (valL (rawL [sA])) = [] := by
 have hv : ∀ p ∈ rawL [sA], sgOk p := rawL_ok fun f hf => by rw [List.mem_singleton] at hf; subst hf; exact sA_ok
 refine list_none fun x => ?_
 rw [forceD_iff hv]
 rintro ⟨⟨p, hp, rfl⟩, h⟩
 simp only [rawL, List.map_cons, List.map_nil, List.mem_cons, List.not_mem_nil, or_false] at hp
 subst hp
 exact absurd (h.symm.trans (show forceD (rawL [sA]) 9 sA = false by kernel_rfl)) (by decide)
theorem cpl5 : cplV (valL (rawL [shF 3 4 1, shF 3 2 1, shF 3 1 5])) 3 = 2 := by
 have o1 : fOk (shF 3 4 1) := shF_ok (isI_small (by omega)) (isI_small (by omega)) (isI_small (by omega))
 have o2 : fOk (shF 3 2 1) := shF_ok (isI_small (by omega)) (isI_small (by omega)) (isI_small (by omega))
 have o3 : fOk (shF 3 1 5) := shF_ok (isI_small (by omega)) (isI_small (by omega)) (isI_small (by omega))
 have hv := three_ok o1 o2 o3
 have n1 : (numF (shF 3 4 1)).2 = true := by decide
 have n2 : (numF (shF 3 2 1)).2 = true := by decide
 have n3 : (numF (shF 3 1 5)).2 = true := by decide
 have hm : ∀ f, f ∈ valL (rawL [shF 3 4 1, shF 3 2 1, shF 3 1 5]) ↔ f = shF 3 4 1 ∨ f = shF 3 2 1 ∨ f = shF 3 1 5 := fun f => by
  rw [(valL_facts hv).1, vF_in]
  constructor
  ·rintro ⟨⟨p, hp, rfl⟩, _⟩
   simp only [rawL, List.map_cons, List.map_nil, List.mem_cons, List.not_mem_nil, or_false] at hp
   rcases hp with rfl | rfl | rfl <;> simp
  ·rintro (rfl | rfl | rfl)
   ·exact ⟨⟨(shF 3 4 1, zs), by simp [rawL], rfl⟩, n1⟩
   ·exact ⟨⟨(shF 3 2 1, zs), by simp [rawL], rfl⟩, n2⟩
   ·exact ⟨⟨(shF 3 1 5, zs), by simp [rawL], rfl⟩, n3⟩
 unfold cplV
 generalize valL (rawL [shF 3 4 1, shF 3 2 1, shF 3 1 5]) = all at hm
 obtain ⟨h1, h2⟩ := cpl_spec (rfs all all.length) 3
 have hR : ∀ k : Int, (3, k) ∈ rfs all all.length ↔ k = 4 ∨ k = 2 ∨ k = 1 := fun k => by
  rw [rfs_all]
  constructor
  ·rintro ⟨g, hg, he⟩
   have hk : g 1 = k := congrArg Prod.snd he
   rcases (hm g).1 hg with rfl | rfl | rfl
   ·exact .inl hk.symm
   ·exact .inr (.inl hk.symm)
   ·exact .inr (.inr hk.symm)
  ·rintro (rfl | rfl | rfl)
   ·exact ⟨_, (hm _).2 (.inl rfl), rfl⟩
   ·exact ⟨_, (hm _).2 (.inr (.inl rfl)), rfl⟩
   ·exact ⟨_, (hm _).2 (.inr (.inr rfl)), rfl⟩
 generalize cplL (rfs all all.length) 3 = n at h1 h2
 rw [hR] at h2
 have a : ¬ 2 < n := fun h => by have := (hR _).1 (h1 2 h); omega
 omega
theorem raw3 (a b c : F) (ha : fOk a) (hb : fOk b) (hc : fOk c) : Fun Tryz.prog 54 [.row 1000] [(1000, .row 65 57 3 ((fsC [a, b, c]).map .d))] (.d (lgD (rawL [a, b, c]) false)) [] fun _ => False :=
 Fun.ofRow 1000 (T := 65) (cs := fsC [a, b, c]) (raw_ok [a, b, c] (by simp) (fun f hf => by
  simp only [List.mem_cons, List.not_mem_nil, or_false] at hf
  rcases hf with rfl | rfl | rfl <;> assumption)) rfl rfl trivial
theorem z171 : ([.d (.v (.int .i64 0)), .d (.v (.int .i64 0)), .d (.v (.int .i64 0)), .d (.v (.int .i64 0)), .d (.v (.int .i64 0)), .d (.v (.int .i64 0)), .d (.v (.int .i64 0)), .d (.v (.int .i64 0)), .d (.v (.int .i64 0)), .d (.v (.int .i64 0)), .d (.v (.int .i64 0)), .d (.v (.int .i64 0)), .d (.v (.int .i64 0)), .d (.v (.int .i64 0)), .d (.v (.int .i64 0)), .d (.v (.int .i64 0)), .d (.v (.int .i64 0)), .d (.v (.int .i64 0)), .d (.v (.int .i64 0)), .d (.v (.int .i64 0)), .d (.v (.int .i64 0)), .d (.v (.int .i64 0)), .d (.v (.int .i64 0)), .d (.v (.int .i64 0)), .d (.v (.int .i64 0)), .d (.v (.int .i64 0)), .d (.v (.int .i64 0)), .d (.v (.int .i64 0)), .d (.v (.int .i64 0)), .d (.v (.int .i64 0)), .d (.v (.int .i64 0)), .d (.v (.int .i64 0)), .d (.v (.int .i64 0)), .d (.v (.int .i64 0)), .d (.v (.int .i64 0)), .d (.v (.int .i64 0)), .d (.v (.int .i64 0)), .d (.v (.int .i64 0)), .d (.v (.int .i64 0)), .d (.v (.int .i64 0)), .d (.v (.int .i64 0)), .d (.v (.int .i64 0)), .d (.v (.int .i64 0)), .d (.v (.int .i64 0)), .d (.v (.int .i64 0)), .d (.v (.int .i64 0)), .d (.v (.int .i64 0)), .d (.v (.int .i64 0)), .d (.v (.int .i64 0)), .d (.v (.int .i64 0)), .d (.v (.int .i64 0)), .d (.v (.int .i64 0)), .d (.v (.int .i64 0)), .d (.v (.int .i64 0)), .d (.v (.bool false)), .d (.v (.int .i64 0)), .d (.v (.int .i64 0)), .d (.v (.int .i64 0)), .d (.v (.int .i64 0)), .d (.v (.int .i64 0)), .d (.v (.int .i64 0)), .d (.v (.int .i64 0)), .d (.v (.int .i64 0)), .d (.v (.int .i64 0)), .d (.v (.int .i64 0)), .d (.v (.int .i64 0)), .d (.v (.int .i64 0)), .d (.v (.int .i64 0)), .d (.v (.int .i64 0)), .d (.v (.int .i64 0)), .d (.v (.int .i64 0)), .d (.v (.int .i64 0)), .d (.v (.int .i64 0)), .d (.v (.int .i64 0)), .d (.v (.int .i64 0)), .d (.v (.int .i64 0)), .d (.v (.int .i64 0)), .d (.v (.int .i64 0)), .d (.v (.int .i64 0)), .d (.v (.int .i64 0)), .d (.v (.int .i64 0)), .d (.v (.int .i64 0)), .d (.v (.int .i64 0)), .d (.v (.int .i64 0)), .d (.v (.int .i64 0)), .d (.v (.int .i64 0)), .d (.v (.int .i64 0)), .d (.v (.int .i64 0)), .d (.v (.int .i64 0)), .d (.v (.int .i64 0)), .d (.v (.int .i64 0)), .d (.v (.int .i64 0)), .d (.v (.int .i64 0)), .d (.v (.int .i64 0)), .d (.v (.int .i64 0)), .d (.v (.int .i64 0)), .d (.v (.int .i64 0)), .d (.v (.int .i64 0)), .d (.v (.int .i64 0)), .d (.v (.int .i64 0)), .d (.v (.int .i64 0)), .d (.v (.int .i64 0)), .d (.v (.int .i64 0)), .d (.v (.int .i64 0)), .d (.v (.int .i64 0)), .d (.v (.int .i64 0)), .d (.v (.int .i64 0)), .d (.v (.int .i64 0)), .d (.v (.int .i64 0)), .d (.v (.int .i64 0)), .d (.v (.int .i64 0)), .d (.v (.bool false)), .d (.v (.int .i64 0)), .d (.v (.int .i64 0)), .d (.v (.int .i64 0)), .d (.v (.int .i64 0)), .d (.v (.int .i64 0)), .d (.v (.int .i64 0)), .d (.v (.int .i64 0)), .d (.v (.int .i64 0)), .d (.v (.int .i64 0)), .d (.v (.int .i64 0)), .d (.v (.int .i64 0)), .d (.v (.int .i64 0)), .d (.v (.int .i64 0)), .d (.v (.int .i64 0)), .d (.v (.int .i64 0)), .d (.v (.int .i64 0)), .d (.v (.int .i64 0)), .d (.v (.int .i64 0)), .d (.v (.int .i64 0)), .d (.v (.int .i64 0)), .d (.v (.int .i64 0)), .d (.v (.int .i64 0)), .d (.v (.int .i64 0)), .d (.v (.int .i64 0)), .d (.v (.int .i64 0)), .d (.v (.int .i64 0)), .d (.v (.int .i64 0)), .d (.v (.int .i64 0)), .d (.v (.int .i64 0)), .d (.v (.int .i64 0)), .d (.v (.int .i64 0)), .d (.v (.int .i64 0)), .d (.v (.int .i64 0)), .d (.v (.int .i64 0)), .d (.v (.int .i64 0)), .d (.v (.int .i64 0)), .d (.v (.int .i64 0)), .d (.v (.int .i64 0)), .d (.v (.int .i64 0)), .d (.v (.int .i64 0)), .d (.v (.int .i64 0)), .d (.v (.int .i64 0)), .d (.v (.int .i64 0)), .d (.v (.int .i64 0)), .d (.v (.int .i64 0)), .d (.v (.int .i64 0)), .d (.v (.int .i64 0)), .d (.v (.int .i64 0)), .d (.v (.int .i64 0)), .d (.v (.int .i64 0)), .d (.v (.int .i64 0)), .d (.v (.int .i64 0)), .d (.v (.int .i64 0)), .d (.v (.int .i64 0)), .d (.v (.int .i64 0)), .d (.v (.int .i64 0)), .d (.v (.bool false)), .d (.v (.int .i64 0)), .d (.v (.int .i64 0))] : List AV) = (fsC [f0, f0, f0]).map AV.d := rfl
theorem build3 (a b c : F) : setL (setL (setL ((fsC [f0, f0, f0]).map AV.d) 0 ((fcs a 0 57).map .d)) 57 ((fcs b 0 57).map .d)) 114 ((fcs c 0 57).map .d) = (fsC [a, b, c]).map AV.d := by
 have h1 := fsC_set (l := [f0, f0, f0]) (i := 0) (by simp) a
 have h2 := fsC_set (l := [a, f0, f0]) (i := 1) (by simp) b
 have h3 := fsC_set (l := [a, b, f0]) (i := 2) (by simp) c
 simp only [Nat.zero_mul, List.set_cons_zero, List.set_cons_succ] at h1 h2 h3
 rw [h1]
 exact (congrArg (fun x => setL x 114 ((fcs c 0 57).map AV.d)) h2).trans h3
theorem voLit (c : Int) : ([.d (.v (.int .i64 c)), .d (.v (.int .i64 1)), .d (.v (.int .i64 30)), .d (.v (.int .i64 13)), .d (.v (.int .i64 0)), .d (.v (.int .i64 0)), .d (.v (.int .i64 0)), .d (.v (.int .i64 0)), .d (.v (.int .i64 0)), .d (.v (.int .i64 0)), .d (.v (.int .i64 0)), .d (.v (.int .i64 0)), .d (.v (.int .i64 0)), .d (.v (.int .i64 0)), .d (.v (.int .i64 0)), .d (.v (.int .i64 0)), .d (.v (.int .i64 0)), .d (.v (.int .i64 0)), .d (.v (.int .i64 0)), .d (.v (.int .i64 0)), .d (.v (.int .i64 0)), .d (.v (.int .i64 0)), .d (.v (.int .i64 0)), .d (.v (.int .i64 0)), .d (.v (.int .i64 0)), .d (.v (.int .i64 0)), .d (.v (.int .i64 0)), .d (.v (.int .i64 0)), .d (.v (.int .i64 0)), .d (.v (.int .i64 0)), .d (.v (.int .i64 0)), .d (.v (.int .i64 0)), .d (.v (.int .i64 0)), .d (.v (.int .i64 0)), .d (.v (.int .i64 0)), .d (.v (.int .i64 0)), .d (.v (.int .i64 0)), .d (.v (.int .i64 0)), .d (.v (.int .i64 0)), .d (.v (.int .i64 0)), .d (.v (.int .i64 0)), .d (.v (.int .i64 0)), .d (.v (.int .i64 0)), .d (.v (.int .i64 0)), .d (.v (.int .i64 0)), .d (.v (.int .i64 0)), .d (.v (.int .i64 0)), .d (.v (.int .i64 0)), .d (.v (.int .i64 0)), .d (.v (.int .i64 0)), .d (.v (.int .i64 0)), .d (.v (.int .i64 0)), .d (.v (.int .i64 0)), .d (.v (.int .i64 0)), .d (.v (.bool false)), .d (.v (.int .i64 2)), .d (.v (.int .i64 5))] : List AV) = (fcs (voF c) 0 57).map AV.d := rfl
theorem vo32 : fup (voF 3) 0 2 = voF 2 := by
 funext i
 unfold fup voF
 split <;> rfl
theorem sane_ok : Fn0 Tryz.prog 17 [] (.v (.bool true)) := by
 have v1 := view_ok (rawL [sB2, sA, voF 3]) false 40 (by simp [rawL]) (three_ok sB_ok sA_ok vo3_ok) (by have := (valL_facts (three_ok sB_ok sA_ok vo3_ok)).2.2.1; simp [rawL] at this ⊢; omega) (fun f hf => ((valL_facts (three_ok sB_ok sA_ok vo3_ok)).2.2.2 f hf).1)
 rw [view1] at v1
 have v2 := view_ok (rawL [sB2, sA, voF 2]) false 40 (by simp [rawL]) (three_ok sB_ok sA_ok vo2_ok) (by have := (valL_facts (three_ok sB_ok sA_ok vo2_ok)).2.2.1; simp [rawL] at this ⊢; omega) (fun f hf => ((valL_facts (three_ok sB_ok sA_ok vo2_ok)).2.2.2 f hf).1)
 rw [view2] at v2
 have v3 := view_ok (rawL [sB2, sA, voF 2]) false 29 (by simp [rawL]) (three_ok sB_ok sA_ok vo2_ok) (by have := (valL_facts (three_ok sB_ok sA_ok vo2_ok)).2.2.1; simp [rawL] at this ⊢; omega) (fun f hf => ((valL_facts (three_ok sB_ok sA_ok vo2_ok)).2.2.2 f hf).1)
 rw [view3] at v3
 have new1 : Fun Tryz.prog 18 [.d nilD, .row 1000] [(1000, .row 70 61 1 ((fcs sA 0 57 ++ zs).map .d))] (.d (.tup [.agg [nilD], .v (.int .i64 (oneE sA))])) [] fun _ => False :=
  Fun.ofRow 1000 (T := 70) (cs := fcs sA 0 57 ++ zs) (new_one sA false sA_ok (by decide)) rfl (by simp [frzL, frz, sgC]) trivial
 have hone : ∀ c, ((∃ a, a ∈ fcs (shF 2 5 10) 0 57 ∧ AV.d a = c) ∨ ∃ a, a ∈ zs ∧ AV.d a = c) → oneA c = true := by
  rintro c (⟨a, h, rfl⟩ | ⟨a, h, rfl⟩)
  ·exact fcs_side h
  ·exact (by decide : ∀ d ∈ zs, oneD d = true) a h
 have same1 : Fn0 Tryz.prog 55 [fD sA, fD sA] (.v (.bool true)) := by
  have := same_ok sA sA sA_ok sA_ok
  rwa [(eqF_iff sA_ok sA_ok).2 rfl] at this
 have raw1 : Fn0 Tryz.prog 54 [.sl 57 (fcs sA 0 57) 1 false] (lgD (rawL [sA]) false) := by
  have := raw_ok [sA] (by simp) (fun f hf => by rw [List.mem_singleton] at hf; subst hf; exact sA_ok)
  simpa [fsC] using this
 have hv4 : ∀ p ∈ rawL [sA], sgOk p := rawL_ok fun f hf => by rw [List.mem_singleton] at hf; subst hf; exact sA_ok
 have v4 := view_ok (rawL [sA]) false 9 (by simp [rawL]) hv4 (by have := (valL_facts hv4).2.2.1; simp [rawL] at this ⊢; omega) (fun f hf => ((valL_facts hv4).2.2.2 f hf).1)
 rw [view4] at v4
 have o1 : fOk (shF 3 4 1) := shF_ok (isI_small (by omega)) (isI_small (by omega)) (isI_small (by omega))
 have o2 : fOk (shF 3 2 1) := shF_ok (isI_small (by omega)) (isI_small (by omega)) (isI_small (by omega))
 have o3 : fOk (shF 3 1 5) := shF_ok (isI_small (by omega)) (isI_small (by omega)) (isI_small (by omega))
 have raw5 : Fn0 Tryz.prog 54 [.sl 57 (fcs (shF 3 4 1) 0 57 ++ (fcs (shF 3 2 1) 0 57 ++ fcs (shF 3 1 5) 0 57)) 3 false] (lgD (rawL [shF 3 4 1, shF 3 2 1, shF 3 1 5]) false) := by
  have := raw_ok [shF 3 4 1, shF 3 2 1, shF 3 1 5] (by simp) (fun f hf => by
   simp only [List.mem_cons, List.not_mem_nil, or_false] at hf
   rcases hf with rfl | rfl | rfl <;> assumption)
  simpa [fsC] using this
 have hv5 := three_ok o1 o2 o3
 have c5 := complete_ok (rawL [shF 3 4 1, shF 3 2 1, shF 3 1 5]) false 3 (isI_small (by omega)) (by simp [rawL]) hv5 (by have := (valL_facts hv5).2.2.1; simp [rawL] at this ⊢; omega) (fun f hf => ((valL_facts hv5).2.2.2 f hf).1)
 rw [cpl5] at c5
 refine Fun.of_wp (pn := noPn) Tryz.tab Tryz.func17 rfl fun β0 => ?_
 simp only [Tryz.f17]
 repeat(first|apply wG|(apply wR;simp -dsimp)|refine aI ?_)
 refine vcStop.call0 Tryz.body52 (short_ok 2 5 10) rfl rfl (by simp) ?_
 simp -dsimp
 repeat(first|apply wG|(apply wR;simp -dsimp)|refine aI ?_)
 refine vcStop.call0 Tryz.body52 (short_ok 2 5 20) rfl rfl (by simp) ?_
 simp -dsimp [fD]
 repeat(first|apply wG|(apply wR;simp -dsimp [voLit, vo32, z171, build3])|refine aI ?_)
 refine vcStop.call Tryz.body54 (raw3 sB2 sA (voF 3) sB_ok sA_ok vo3_ok) (rl [(1000, 21)]) rfl rfl (by simp [sA, sB2, BoxLeq]) (CallOk.of (by simp [sA, sB2, BoxLeq]) rfl (by first | rfl | (simp [sA, sB2, BoxLeq]; done)) (by simp [sA, sB2, BoxLeq]) (by simp [sA, sB2, BoxLeq])) (fun _ h => h.elim) (fun ⟨_, h⟩ => h.elim) (fun ⟨_, h⟩ => h.elim) (by simp [sA, sB2, BoxLeq]) ?_
 simp -dsimp
 repeat(first|apply wG|(apply wR;simp -dsimp)|refine aI ?_)
 refine vcStop.call0 Tryz.body53 v1 rfl rfl (by simp) ?_
 simp -dsimp
 repeat(first|apply wG|(apply wR;simp -dsimp [voLit, vo32, z171, build3])|refine aI ?_)
 refine vcStop.call Tryz.body54 (raw3 sB2 sA (voF 2) sB_ok sA_ok vo2_ok) (rl [(1000, 27)]) rfl rfl (by simp [sA, sB2, BoxLeq]) (CallOk.of (by simp [sA, sB2, BoxLeq]) rfl (by first | rfl | (simp [sA, sB2, BoxLeq]; done)) (by simp [sA, sB2, BoxLeq]) (by simp [sA, sB2, BoxLeq])) (fun _ h => h.elim) (fun ⟨_, h⟩ => h.elim) (fun ⟨_, h⟩ => h.elim) (by simp [sA, sB2, BoxLeq]) ?_
 simp -dsimp
 repeat(first|apply wG|(apply wR;simp -dsimp)|refine aI ?_)
 refine vcStop.call0 Tryz.body53 v2 rfl rfl (by simp) ?_
 simp -dsimp
 repeat(first|apply wG|(apply wR;simp -dsimp [voLit, vo32, z171, build3])|refine aI ?_)
 refine vcStop.call Tryz.body54 (raw3 sB2 sA (voF 2) sB_ok sA_ok vo2_ok) (rl [(1000, 33)]) rfl rfl (by simp [sA, sB2, BoxLeq]) (CallOk.of (by simp [sA, sB2, BoxLeq]) rfl (by first | rfl | (simp [sA, sB2, BoxLeq]; done)) (by simp [sA, sB2, BoxLeq]) (by simp [sA, sB2, BoxLeq])) (fun _ h => h.elim) (fun ⟨_, h⟩ => h.elim) (fun ⟨_, h⟩ => h.elim) (by simp [sA, sB2, BoxLeq]) ?_
 simp -dsimp
 repeat(first|apply wG|(apply wR;simp -dsimp)|refine aI ?_)
 refine vcStop.call0 Tryz.body53 v3 rfl rfl (by simp) ?_
 simp -dsimp
 repeat(first|apply wG|(apply wR;simp -dsimp [zero61, set61k])|refine aI ?_)
 refine And.intro ⟨rfl, hone⟩ ?_
 refine vcStop.call Tryz.body18 (new1) (rl [(1000, 39)]) rfl rfl (by simp [sA, BoxLeq]) (CallOk.of (by simp [sA, BoxLeq]) rfl (by first | rfl | (simp [sA, BoxLeq]; done)) (by simp [sA, BoxLeq]) (by simp [sA, BoxLeq])) (fun _ h => h.elim) (fun ⟨_, h⟩ => h.elim) (fun ⟨_, h⟩ => h.elim) (by simp [sA, BoxLeq]) ?_
 simp -dsimp
 repeat(first|apply wG|(apply wR;simp -dsimp)|refine aI ?_)
 refine vcStop.call0 Tryz.body18 new_nil rfl rfl (by simp) ?_
 simp -dsimp
 repeat(first|apply wG|(apply wR;simp -dsimp)|refine aI ?_)
 refine vcStopG.call0 Tryz.body55 (fun _ => same1) rfl (fun _ => rfl) (fun hg => by simp [fD, sA, fsC]) ?_
 simp -dsimp
 repeat(first|apply wG|(apply wR;simp -dsimp)|refine aI ?_)
 refine vcStopG.buildData Tryz.tab (ds := fcs sA 0 57) rfl rfl rfl rfl (LeqL.refl _) (by decide) (by decide) (by simp [fcs_length]; exact fun _ h => fcs_side h) ?_
 simp -dsimp
 repeat(first|apply wG|(apply wR;simp -dsimp)|refine aI ?_)
 refine vcStopG.call0 Tryz.body54 (fun _ => raw1) rfl (fun _ => rfl) (fun hg => by simp) ?_
 simp -dsimp
 repeat(first|apply wG|(apply wR;simp -dsimp)|refine aI ?_)
 refine vcStopG.call0 Tryz.body53 (fun _ => v4) rfl (fun _ => rfl) (fun hg => by simp) ?_
 simp -dsimp
 repeat(first|apply wG|(apply wR;simp -dsimp)|refine aI ?_)
 refine vcStopG.call0 Tryz.body52 (fun _ => short_ok 3 4 1) rfl (fun _ => rfl) (fun hg => by simp) ?_
 simp -dsimp
 repeat(first|apply wG|(apply wR;simp -dsimp)|refine aI ?_)
 refine vcStopG.call0 Tryz.body52 (fun _ => short_ok 3 2 1) rfl (fun _ => rfl) (fun hg => by simp) ?_
 simp -dsimp
 repeat(first|apply wG|(apply wR;simp -dsimp)|refine aI ?_)
 refine vcStopG.call0 Tryz.body52 (fun _ => short_ok 3 1 5) rfl (fun _ => rfl) (fun hg => by simp) ?_
 simp -dsimp [fD]
 repeat(first|apply wG|(apply wR;simp -dsimp)|refine aI ?_)
 refine vcStopG.buildData Tryz.tab (ds := fcs (shF 3 4 1) 0 57 ++ (fcs (shF 3 2 1) 0 57 ++ fcs (shF 3 1 5) 0 57)) rfl rfl rfl rfl (LeqL.refl _) (by decide) (by decide) (by simp [fcs_length, setL_length]; exact ⟨fun _ h => fcs_side h, fun _ h => fcs_side h, fun _ h => fcs_side h⟩) ?_
 simp -dsimp
 repeat(first|apply wG|(apply wR;simp -dsimp)|refine aI ?_)
 refine vcStopG.call0 Tryz.body54 (fun _ => raw5) rfl (fun _ => rfl) (fun hg => by simp) ?_
 simp -dsimp
 repeat(first|apply wG|(apply wR;simp -dsimp)|refine aI ?_)
 refine vcStopG.call0 Tryz.body56 (fun _ => c5) rfl (fun _ => rfl) (fun hg => by simp) ?_
 simp -dsimp
 repeat(first|apply wG|(apply wR;simp -dsimp)|refine aI ?_)
 refine vcStopG.call0 Tryz.body33 (fun _ => crews_nil) rfl (fun _ => rfl) (fun hg => by simp) ?_
 simp -dsimp
 repeat(first|apply wG|(apply wR;simp -dsimp)|refine aI ?_)
 have hoe : decide (oneE sA = 0) = false := decide_eq_false (by unfold oneE; split <;> decide)
 refine WP.ret (finQ.retE ?_)
 simp -dsimp [hoe]
end Go.Proofs.YtnljenjcaeophaaGreatDoor
