/-
  Ledgers: what is in force.
-/
import Derived.Test.YtghfancmonhkcaaDoorKKi
set_option linter.unusedSectionVars false
set_option linter.unusedSimpArgs false
set_option linter.unusedVariables false
namespace Go.Proofs.YtghfancmonhkcaaDoor
open Go.Xe Go.RowKit

/-- What the first of the recorded void. -/
def vds (r : List F) : Nat → List (Int × Int)
  | 0 => []
  | i + 1 => if voidB (fat r i) = true then addRef (vds r i) (fat r i 55, fat r i 56) else vds r i
theorem vds_in (r : List F) (p : Int × Int) : ∀ i, i ≤ r.length → (p ∈ vds r i ↔ ∃ g ∈ r.take i, voidB g = true ∧ (g 55, g 56) = p)
  | 0, _ => by simp [vds]
  | i + 1, h => by
    rw [vds, take_fat (by omega)]
    have ih := vds_in r p i (by omega)
    split
    · rename_i hv
      rw [addRef_in, ih]
      constructor
      · rintro (⟨g, h1, h2, h3⟩ | rfl)
        · exact ⟨g, List.mem_append.2 (.inl h1), h2, h3⟩
        · exact ⟨_, by simp, hv, rfl⟩
      · rintro ⟨g, h1, h2, h3⟩
        rcases List.mem_append.1 h1 with h1 | h1
        · exact .inl ⟨g, h1, h2, h3⟩
        · rw [List.mem_singleton] at h1; subst h1; exact .inr h3.symm
    · rename_i hv
      rw [ih]
      constructor
      · rintro ⟨g, h1, h2, h3⟩; exact ⟨g, List.mem_append.2 (.inl h1), h2, h3⟩
      · rintro ⟨g, h1, h2, h3⟩
        rcases List.mem_append.1 h1 with h1 | h1
        · exact ⟨g, h1, h2, h3⟩
        · rw [List.mem_singleton] at h1; subst h1; exact absurd h2 hv
theorem vds_all (r : List F) (p : Int × Int) : p ∈ vds r r.length ↔ p ∈ voidsL r := by
  rw [vds_in r p _ (Nat.le_refl _), List.take_length, voids_iff]
  simp only [voidB, Bool.and_eq_true, decide_eq_true_eq]
  constructor
  · rintro ⟨g, h1, ⟨h2, h3⟩, h4⟩; exact ⟨g, h1, h2, h3, h4⟩
  · rintro ⟨g, h1, h2, h3, h4⟩; exact ⟨g, h1, ⟨h2, h3⟩, h4⟩
theorem vds_I {r : List F} (hr : ∀ f ∈ r, fOk f) : ∀ i, i ≤ r.length → refsI (vds r i)
  | 0, _ => fun _ h => by cases h
  | i + 1, h => by
    rw [vds]
    have := hr _ (fat_in (show i < r.length by omega))
    split
    · exact refsI_add (vds_I hr i (by omega)) (this.1 55) (this.1 56)
    · exact vds_I hr i (by omega)
def bs1 (r : List F) (i : Nat) : Bxs := [(1100, .cells 74 [.row 1101]), (1101, .mp (refsM (vds r i)))]
theorem bs1_singles (r : List F) (i : Nat) : singles (bs1 r i) := by
  intro k b h
  simp only [bs1, getB] at h
  (repeat' split at h) <;> cases h <;> rfl
def keep (V : List (Int × Int)) (f : F) : Bool := !decide (f 3 = 13) && !decide (refF f ∈ V)
def bs2 (V : List (Int × Int)) : List F → Bxs
  | [] => [(1100, .cells 74 [.row 1101]), (1101, .mp (refsM V)), (1102, .cells 26 [.d nilD])]
  | f :: r => [(1100, .cells 74 [.row 1101]), (1101, .mp (refsM V)), (1102, .cells 26 [.row 505]), (505, rB (f :: r))]
theorem bs2_singles (V : List (Int × Int)) (l : List F) : singles (bs2 V l) := by
  intro k b h
  cases l <;> simp only [bs2, getB] at h <;> (repeat' split at h) <;> cases h <;> rfl
theorem recS_ok {t : Int} {l : List F} (h : ∀ f ∈ l, fOk f) : ∀ f ∈ recS t l [], fOk f := fun f hf => h f ((recS_sub t l []).subset hf)
set_option maxRecDepth 10000 in
set_option maxHeartbeats 4000000 in
theorem view_ok (l : List Sg) (b : Bool) (t : Int) (hl : l.length ≤ 14) (hv : ∀ p ∈ l, sgOk p) (hal : (valL l).length ≤ 14) (hao : ∀ f ∈ valL l, fOk f) : Fn0 Tryd.prog 6 [lgD l b, .v (.int .i64 t)] (slF (viewL t (valL l))) := by
  refine Fun.of_wpR Tryd.tab Tryd.func6 rfl fun β0 => ?_
  simp only [Tryd.f6]
  repeat (first | refine WP.seq ?_ | refine WP.block ?_ | (refine WP.region Tryd.tab ?_; simp -dsimp) | (refine WP.draw Tryd.tab Tryd.mixed ?_; simp -dsimp) | refine And.intro (by first | rfl | omega | decide | (simp; done) | (simp; omega) | (intro _ h; exact fcs_side h; done) | (intros; simp_all; done) | (intros; simp_all; omega)) ?_)
  refine vcStop.call0L Tryd.body17 (valid_ok l b hl hv) rfl rfl (And.intro (Leq.aggD [sgD l b]) trivial) ?_
  generalize valL l = all at hal hao
  simp -dsimp
  repeat (first | refine WP.seq ?_ | refine WP.block ?_ | (refine WP.region Tryd.tab ?_; simp -dsimp) | (refine WP.draw Tryd.tab Tryd.mixed ?_; simp -dsimp) | refine And.intro (by first | rfl | omega | decide | (simp; done) | (simp; omega) | (intro _ h; exact fcs_side h; done) | (intros; simp_all; done) | (intros; simp_all; omega)) ?_)
  refine vcStop.makeMap 11 rfl (by simp) ?_
  simp -dsimp
  repeat (first | refine WP.seq ?_ | refine WP.block ?_ | (refine WP.region Tryd.tab ?_; simp -dsimp) | (refine WP.draw Tryd.tab Tryd.mixed ?_; simp -dsimp) | refine And.intro (by first | rfl | omega | decide | (simp; done) | (simp; omega) | (intro _ h; exact fcs_side h; done) | (intros; simp_all; done) | (intros; simp_all; omega)) ?_)
  refine vcStop.call Tryd.body18 (recorded_ok all t) (rl [(0, 600), (1, 601)]) rfl rfl (by simp [BoxLeq]) (CallOk.of (by simp [BoxLeq]) rfl (by first | rfl | (simp [BoxLeq]; done)) (by simp [BoxLeq]) (by simp [BoxLeq])) (fun _ h => h.elim) (fun ⟨_, h⟩ => h.elim) (fun ⟨_, h⟩ => h.elim) (by simp [BoxLeq]) ?_
  simp -dsimp
  repeat (first | refine WP.seq ?_ | refine WP.block ?_ | (refine WP.region Tryd.tab ?_; simp -dsimp) | (refine WP.draw Tryd.tab Tryd.mixed ?_; simp -dsimp) | refine And.intro (by first | rfl | omega | decide | (simp; done) | (simp; omega) | (intro _ h; exact fcs_side h; done) | (intros; simp_all; done) | (intros; simp_all; omega)) ?_)
  have hro := recS_ok (t := t) hao
  refine WP.rangeFuncE Tryd.body30 (recorded_it all t hal hao) (jump := fun _ => none) (bs1 (recS t all [])) (mkS 52 [(6, .ptr 1100 0)] []).sl 990 (rl [(1000, 600), (1001, 601), (1100, 6), (1101, 11), (990, 602)]) rfl rfl rfl (by simp) (by simp) (by simp) (fun i _ => bs1_singles _ i)
    (by simp [bs1]) (by simp) (by simp [bs1]) (by simp) (by decide) (by simp [bs1]) (fun _ _ => rfl) (fun _ _ => rfl) ?_ (fun G => CallOk.of (by simp [bs1, vds, refsM]) (by simp [bs1]) (by simp [bs1]) (by simp [bs1]) (by simp [bs1])) (fun G => by simp [bs1]) ?_
  · intro i hi lp β1
    have hfo := hro _ (fat_in hi)
    have hI := vds_I hro i (by omega)
    have hvs : vds (recS t all []) (i + 1) = if voidB (fat (recS t all []) i) = true then addRef (vds (recS t all []) i) (fat (recS t all []) i 55, fat (recS t all []) i 56) else vds (recS t all []) i := rfl
    generalize fat (recS t all []) i = f at hfo hvs
    obtain ⟨lk, hlk⟩ := ref_key (r := (f 55, f 56)) (hfo.1 55) (hfo.1 56)
    simp -dsimp [bs1, fD]
    generalize vds (recS t all []) i = V at hI hvs ⊢
    repeat (first | refine WP.seq ?_ | refine WP.block ?_ | (refine WP.region Tryd.tab ?_; simp -dsimp) | (refine WP.draw Tryd.tab Tryd.mixed ?_; simp -dsimp) | refine And.intro (by first | rfl | omega | decide | (simp; done) | (simp; omega) | (intro _ h; exact fcs_side h; done) | (intros; simp_all; done) | (intros; simp_all; omega)) ?_)
    refine WP.cond (b := voidB f) (by simp [voidB]) (fun hb => ?_) (fun hb => ?_)
    · rw [if_pos hb] at hvs
      repeat (first | refine WP.seq ?_ | refine WP.block ?_ | (refine WP.region Tryd.tab ?_; simp -dsimp) | (refine WP.draw Tryd.tab Tryd.mixed ?_; simp -dsimp) | refine And.intro (by first | rfl | omega | decide | (simp; done) | (simp; omega) | (intro _ h; exact fcs_side h; done) | (intros; simp_all; done) | (intros; simp_all; omega)) ?_)
      refine vcStop.mapPut Tryd.tab rfl rfl ref_keyed (j := 1101) rfl (kvs := refsM V) (refsM (addRef V (f 55, f 56))) rfl (key := refV (f 55, f 56)) (ref_leq _ _) (d := .v (.bool true)) (.refl _) hlk (refs_keys hI) (refs_put V _) ?_
      simp -dsimp
      repeat (first | refine WP.seq ?_ | refine WP.block ?_ | (refine WP.region Tryd.tab ?_; simp -dsimp) | (refine WP.draw Tryd.tab Tryd.mixed ?_; simp -dsimp) | refine And.intro (by first | rfl | omega | decide | (simp; done) | (simp; omega) | (intro _ h; exact fcs_side h; done) | (intros; simp_all; done) | (intros; simp_all; omega)) ?_)
      exact ⟨mkS 52 [] (bs1 (recS t all []) (i + 1)), Wk.lessE [7] (by simp) (by simp [bs1, hvs]), subB_ok (by simp [bs1])⟩
    · rw [if_neg (by simp [hb])] at hvs
      refine WP.skip ?_
      simp -dsimp
      repeat (first | refine WP.seq ?_ | refine WP.block ?_ | (refine WP.region Tryd.tab ?_; simp -dsimp) | (refine WP.draw Tryd.tab Tryd.mixed ?_; simp -dsimp) | refine And.intro (by first | rfl | omega | decide | (simp; done) | (simp; omega) | (intro _ h; exact fcs_side h; done) | (intros; simp_all; done) | (intros; simp_all; omega)) ?_)
      exact ⟨mkS 52 [] (bs1 (recS t all []) (i + 1)), Wk.lessE [7] (by simp) (by simp [bs1, hvs]), subB_ok (by simp [bs1])⟩
  · intro G
    have hI := vds_I hro _ (Nat.le_refl _)
    have hVw : viewL t all = (recS t all []).filter (keep (vds (recS t all []) (recS t all []).length)) := by
      unfold viewL
      refine List.filter_congr fun f _ => ?_
      unfold keep
      congr 2
      rw [Bool.eq_iff_iff, decide_eq_true_eq, decide_eq_true_eq, vds_all]
    have hit := recorded_it all t hal hao
    have hrl : (recS t all []).length ≤ 14 := by have := (recS_sub t all []).length_le; omega
    rw [pendOf_none, endQ_none]
    simp -dsimp [bs1]
    repeat (first | refine WP.seq ?_ | refine WP.block ?_ | (refine WP.region Tryd.tab ?_; simp -dsimp) | (refine WP.draw Tryd.tab Tryd.mixed ?_; simp -dsimp) | refine And.intro (by first | rfl | omega | decide | (simp; done) | (simp; omega) | (intro _ h; exact fcs_side h; done) | (intros; simp_all; done) | (intros; simp_all; omega)) ?_)
    rw [hVw]
    generalize recS t all [] = r at hro hI hit hrl
    generalize vds r r.length = V at hI
    refine vcStop.call Tryd.body18 (recorded_ok all t) (rl [(0, 603), (1, 604)]) rfl rfl (by simp [BoxLeq]) (CallOk.of (by simp [BoxLeq]) rfl (by first | rfl | (simp [BoxLeq]; done)) (by simp [BoxLeq]) (by simp [BoxLeq])) (fun _ h => h.elim) (fun ⟨_, h⟩ => h.elim) (fun ⟨_, h⟩ => h.elim) (by simp [BoxLeq]) ?_
    simp -dsimp
    repeat (first | refine WP.seq ?_ | refine WP.block ?_ | (refine WP.region Tryd.tab ?_; simp -dsimp) | (refine WP.draw Tryd.tab Tryd.mixed ?_; simp -dsimp) | refine And.intro (by first | rfl | omega | decide | (simp; done) | (simp; omega) | (intro _ h; exact fcs_side h; done) | (intros; simp_all; done) | (intros; simp_all; omega)) ?_)
    refine WP.rangeFuncE Tryd.body30 hit (jump := fun _ => none) (fun i => bs2 V ((r.take i).filter (keep V))) (mkS 52 [(4, .ptr 1102 0), (6, .ptr 1100 0)] []).sl 990 (rl [(1000, 603), (1001, 604), (1100, 6), (1101, 11), (1102, 4), (505, 700), (990, 605)]) rfl rfl rfl (by simp) (by simp) (by simp) (fun i _ => bs2_singles _ _)
      (by cases (r.take r.length).filter (keep V) <;> simp [bs2]) (by simp) (by cases (r.take r.length).filter (keep V) <;> simp [bs2]) (by simp) (by decide) (by cases (r.take r.length).filter (keep V) <;> simp [bs2]) (fun _ _ => rfl) (fun _ _ => rfl) ?_ (fun G => CallOk.of (by simp [bs2]) (by cases (r.take r.length).filter (keep V) <;> simp [bs2]) (by cases (r.take r.length).filter (keep V) <;> simp [bs2]) (by cases (r.take r.length).filter (keep V) <;> simp [bs2]) (by cases (r.take r.length).filter (keep V) <;> simp [bs2])) (fun G => by cases (r.take r.length).filter (keep V) <;> simp [bs2]) ?_
    · intro i hi lp β1
      have hfo := hro _ (fat_in hi)
      have ht : (r.take (i + 1)).filter (keep V) = (r.take i).filter (keep V) ++ if keep V (fat r i) = true then [fat r i] else [] := by
        rw [take_fat hi, List.filter_append]
        congr 1
        simp only [List.filter_cons, List.filter_nil]
      have hol : ((r.take i).filter (keep V)).length ≤ 14 := by
        have h1 := List.length_filter_le (keep V) (r.take i)
        rw [List.length_take] at h1
        omega
      rw [ht]
      generalize (r.take i).filter (keep V) = o at hol
      generalize fat r i = f at hfo
      obtain ⟨lk, hlk⟩ := ref_key (r := refF f) (hfo.1 0) (hfo.1 1)
      cases o with
      | nil =>
        simp -dsimp [bs2, fD]
        repeat (first | refine WP.seq ?_ | refine WP.block ?_ | (refine WP.region Tryd.tab ?_; simp -dsimp) | (refine WP.draw Tryd.tab Tryd.mixed ?_; simp -dsimp) | refine And.intro (by first | rfl | omega | decide | (simp; done) | (simp; omega) | (intro _ h; exact fcs_side h; done) | (intros; simp_all; done) | (intros; simp_all; omega)) ?_)
        refine vcStopG.mapGet Tryd.tab rfl rfl ref_keyed Tryd.zeroValue4 (j := 1101) (fun hg => by simp [hg]) (kvs := refsM V) rfl (key := refV (refF f)) (fun hg => by simp [hg]; exact ref_leq _ _) (.v (.bool (decide (refF f ∈ V)))) hlk (refs_keys hI) (refs_get V (refF f)) ?_
        simp -dsimp
        repeat (first | refine WP.seq ?_ | refine WP.block ?_ | (refine WP.region Tryd.tab ?_; simp -dsimp) | (refine WP.draw Tryd.tab Tryd.mixed ?_; simp -dsimp) | refine And.intro (by first | rfl | omega | decide | (simp; done) | (simp; omega) | (intro _ h; exact fcs_side h; done) | (intros; simp_all; done) | (intros; simp_all; omega)) ?_)
        refine WP.cond (b := keep V f) (by simp [keep]) (fun hb => ?_) (fun hb => ?_)
        · repeat (first | refine WP.seq ?_ | refine WP.block ?_ | (refine WP.region Tryd.tab ?_; simp -dsimp) | (refine WP.draw Tryd.tab Tryd.mixed ?_; simp -dsimp) | refine And.intro (by first | rfl | omega | decide | (simp; done) | (simp; omega) | (intro _ h; exact fcs_side h; done) | (intros; simp_all; done) | (intros; simp_all; omega)) ?_)
          exact ⟨mkS 52 [] (bs2 V ([f])), Wk.go [8, 49] 50 505 (by decide) (by simp) (by simp) (by simp [bs2, hb, fsC]), subB_ok (by simp [bs2, hb])⟩
        · refine WP.skip ?_
          simp -dsimp
          repeat (first | refine WP.seq ?_ | refine WP.block ?_ | (refine WP.region Tryd.tab ?_; simp -dsimp) | (refine WP.draw Tryd.tab Tryd.mixed ?_; simp -dsimp) | refine And.intro (by first | rfl | omega | decide | (simp; done) | (simp; omega) | (intro _ h; exact fcs_side h; done) | (intros; simp_all; done) | (intros; simp_all; omega)) ?_)
          exact ⟨mkS 52 [] (bs2 V ([])), Wk.lessE [8] (by simp) (by simp [bs2, hb]), subB_ok (by simp [bs2, hb])⟩
      | cons g o =>
        have hol' : o.length + 1 ≤ 14 := by simpa using hol
        simp -dsimp [bs2, fD]
        repeat (first | refine WP.seq ?_ | refine WP.block ?_ | (refine WP.region Tryd.tab ?_; simp -dsimp) | (refine WP.draw Tryd.tab Tryd.mixed ?_; simp -dsimp) | refine And.intro (by first | rfl | omega | decide | (simp; done) | (simp; omega) | (intro _ h; exact fcs_side h; done) | (intros; simp_all; done) | (intros; simp_all; omega)) ?_)
        refine vcStopG.mapGet Tryd.tab rfl rfl ref_keyed Tryd.zeroValue4 (j := 1101) (fun hg => by simp [hg]) (kvs := refsM V) rfl (key := refV (refF f)) (fun hg => by simp [hg]; exact ref_leq _ _) (.v (.bool (decide (refF f ∈ V)))) hlk (refs_keys hI) (refs_get V (refF f)) ?_
        simp -dsimp
        repeat (first | refine WP.seq ?_ | refine WP.block ?_ | (refine WP.region Tryd.tab ?_; simp -dsimp) | (refine WP.draw Tryd.tab Tryd.mixed ?_; simp -dsimp) | refine And.intro (by first | rfl | omega | decide | (simp; done) | (simp; omega) | (intro _ h; exact fcs_side h; done) | (intros; simp_all; done) | (intros; simp_all; omega)) ?_)
        refine WP.cond (b := keep V f) (by simp [keep]) (fun hb => ?_) (fun hb => ?_)
        · repeat (first | refine WP.seq ?_ | refine WP.block ?_ | (refine WP.region Tryd.tab ?_; simp -dsimp) | (refine WP.draw Tryd.tab Tryd.mixed ?_; simp -dsimp) | refine And.intro (by first | rfl | omega | decide | (simp; done) | (simp; omega) | (intro _ h; exact fcs_side h; done) | (intros; simp_all; done) | (intros; simp_all; omega)) ?_)
          exact ⟨mkS 52 [] (bs2 V (g :: o ++ [f])), Wk.go [8, 49] 50 505 (by decide) (by simp) (by simp) (by simp [bs2, hb, fsC]), subB_ok (by simp [bs2, hb])⟩
        · refine WP.skip ?_
          simp -dsimp
          repeat (first | refine WP.seq ?_ | refine WP.block ?_ | (refine WP.region Tryd.tab ?_; simp -dsimp) | (refine WP.draw Tryd.tab Tryd.mixed ?_; simp -dsimp) | refine And.intro (by first | rfl | omega | decide | (simp; done) | (simp; omega) | (intro _ h; exact fcs_side h; done) | (intros; simp_all; done) | (intros; simp_all; omega)) ?_)
          exact ⟨mkS 52 [] (bs2 V (g :: o)), Wk.lessE [8] (by simp) (by simp [bs2, hb]), subB_ok (by simp [bs2, hb])⟩
    · intro G2
      rw [pendOf_none, endQ_none, List.take_length]
      generalize r.filter (keep V) = o
      cases o with
      | nil =>
        simp -dsimp [bs2]
        repeat (first | refine WP.seq ?_ | refine WP.block ?_ | (refine WP.region Tryd.tab ?_; simp -dsimp) | (refine WP.draw Tryd.tab Tryd.mixed ?_; simp -dsimp) | refine And.intro (by first | rfl | omega | decide | (simp; done) | (simp; omega) | (intro _ h; exact fcs_side h; done) | (intros; simp_all; done) | (intros; simp_all; omega)) ?_)
        refine WP.ret (finQR.retW2 ((Wk.lessE [] (S' := mkS 52 [(4, .ptr 4 0)] [(602, .obj G (.deferred (some []))), (4, .cells 26 [.d nilD]), (605, .obj G2 (.deferred (some [])))] [G2, G]) (by simp) (by simp)).trans ((Wk.nilCell 4 0 500 54 57 (by simp; exact ⟨rfl, rfl⟩) rfl (by simp)).trans (Wk.freeze (k := 500) (T := 54) (sz := 57) (n := 0) (ds := []) (by simp)))) ?_ G2 605 G 602 (by decide) rfl rfl rfl rfl rfl)
        simp -dsimp
      | cons g o =>
        simp -dsimp [bs2]
        repeat (first | refine WP.seq ?_ | refine WP.block ?_ | (refine WP.region Tryd.tab ?_; simp -dsimp) | (refine WP.draw Tryd.tab Tryd.mixed ?_; simp -dsimp) | refine And.intro (by first | rfl | omega | decide | (simp; done) | (simp; omega) | (intro _ h; exact fcs_side h; done) | (intros; simp_all; done) | (intros; simp_all; omega)) ?_)
        refine WP.ret (finQR.retW2 ((Wk.lessE [] (S' := mkS 52 [(4, .ptr 4 0)] [(602, .obj G (.deferred (some []))), (4, .cells 26 [.row 700]), (700, rB (g :: o)), (605, .obj G2 (.deferred (some [])))] [G2, G]) (by simp) (by simp)).trans (Wk.freeze (k := 700) (T := 54) (sz := 57) (n := (g :: o).length) (ds := fsC (g :: o)) (by simp))) ?_ G2 605 G 602 (by decide) rfl rfl rfl rfl rfl)
        simp -dsimp
end Go.Proofs.YtghfancmonhkcaaDoor
