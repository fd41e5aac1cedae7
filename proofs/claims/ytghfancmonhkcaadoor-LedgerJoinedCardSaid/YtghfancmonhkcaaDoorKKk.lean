/-
  Ledgers: Complete.
-/
import Derived.Test.YtghfancmonhkcaaDoorKKi
set_option linter.unusedSectionVars false
set_option linter.unusedSimpArgs false
set_option linter.unusedVariables false
namespace Go.Proofs.YtghfancmonhkcaaDoor
open Go.Xe Go.RowKit

/-- The references of the first facts. -/
def rfs (l : List F) : Nat → List (Int × Int)
  | 0 => []
  | i + 1 => addRef (rfs l i) (refF (fat l i))
theorem rfs_in (l : List F) (p : Int × Int) : ∀ i, i ≤ l.length → (p ∈ rfs l i ↔ ∃ g ∈ l.take i, refF g = p)
  | 0, _ => by simp [rfs]
  | i + 1, h => by
    rw [rfs, take_fat (by omega), addRef_in, rfs_in l p i (by omega)]
    constructor
    · rintro (⟨g, h1, h2⟩ | rfl)
      · exact ⟨g, List.mem_append.2 (.inl h1), h2⟩
      · exact ⟨_, by simp, rfl⟩
    · rintro ⟨g, h1, h2⟩
      rcases List.mem_append.1 h1 with h1 | h1
      · exact .inl ⟨g, h1, h2⟩
      · rw [List.mem_singleton] at h1; subst h1; exact .inr h2.symm
theorem rfs_all (l : List F) (p : Int × Int) : p ∈ rfs l l.length ↔ ∃ g ∈ l, refF g = p := by
  rw [rfs_in l p _ (Nat.le_refl _), List.take_length]
theorem rfs_I {l : List F} (hr : ∀ f ∈ l, fOk f) : ∀ i, i ≤ l.length → refsI (rfs l i)
  | 0, _ => fun _ h => by cases h
  | i + 1, h => by
    have := hr _ (fat_in (show i < l.length by omega))
    exact refsI_add (rfs_I hr i (by omega)) (this.1 0) (this.1 1)
theorem rfs_len (l : List F) : ∀ i, (rfs l i).length ≤ i
  | 0 => by simp [rfs]
  | i + 1 => by
    have := rfs_len l i
    rw [rfs, addRef]
    split
    · omega
    · simp; omega
theorem rm_len {α : Type} [DecidableEq α] : ∀ (a b : List α), a.Nodup → (∀ x ∈ a, x ∈ b) → a.length ≤ b.length
  | [], _, _, _ => Nat.zero_le _
  | x :: a, b, hn, hs => by
    obtain ⟨p, q, rfl⟩ := List.append_of_mem (hs x (by simp))
    have := rm_len a (p ++ q) (List.nodup_cons.1 hn).2 fun y hy => by
      have h := hs y (by simp [hy])
      simp only [List.mem_append, List.mem_cons] at h ⊢
      rcases h with h | rfl | h
      · exact .inl h
      · exact absurd hy (List.nodup_cons.1 hn).1
      · exact .inr h
    simp at this ⊢
    omega
/-- How far a crew's numbers go without a gap. -/
def runL (R : List (Int × Int)) (c : Int) : Nat → Nat → Nat
  | 0, n => n
  | k + 1, n => if (c, (n : Int) + 1) ∈ R then runL R c k (n + 1) else n
def cplL (R : List (Int × Int)) (c : Int) : Nat := runL R c (R.length + 1) 0
theorem cpl_room {R : List (Int × Int)} {c : Int} {n : Nat} (h : ∀ i : Nat, i < n → (c, (i : Int) + 1) ∈ R) : n ≤ R.length := by
  have := rm_len ((List.range n).map fun i : Nat => (c, (i : Int) + 1)) R (by
    rw [List.Nodup, List.pairwise_map]
    refine List.nodup_range.imp fun {a b} hab e => hab ?_
    simp at e
    omega) fun x hx => by
    obtain ⟨i, hi, rfl⟩ := List.mem_map.1 hx
    exact h i (List.mem_range.1 hi)
  simpa using this
theorem runL_spec {R : List (Int × Int)} {c : Int} : ∀ (k n : Nat), k + n = R.length + 1 → (∀ i : Nat, i < n → (c, (i : Int) + 1) ∈ R) → (∀ i : Nat, i < runL R c k n → (c, (i : Int) + 1) ∈ R) ∧ (c, (runL R c k n : Int) + 1) ∉ R
  | 0, n, h, hi => by have := cpl_room hi; omega
  | k + 1, n, h, hi => by
    rw [runL]
    split
    · rename_i hm
      refine runL_spec k (n + 1) (by omega) fun i hin => ?_
      rcases Nat.lt_or_ge i n with h1 | h1
      · exact hi i h1
      · rw [show i = n by omega]; exact hm
    · rename_i hm
      exact ⟨hi, hm⟩
theorem cpl_spec (R : List (Int × Int)) (c : Int) : (∀ i : Nat, i < cplL R c → (c, (i : Int) + 1) ∈ R) ∧ (c, (cplL R c : Int) + 1) ∉ R := runL_spec _ 0 (by omega) fun i h => absurd h (Nat.not_lt_zero i)
def cplV (all : List F) (c : Int) : Nat := cplL (rfs all all.length) c
set_option maxRecDepth 10000 in
set_option maxHeartbeats 4000000 in
theorem complete_ok (l : List Sg) (b : Bool) (c : Int) (hc : isI c) (hl : l.length ≤ 14) (hv : ∀ p ∈ l, sgOk p) (hal : (valL l).length ≤ 14) (hao : ∀ f ∈ valL l, fOk f) : Fn0 Tryd.prog 11 [lgD l b, .v (.int .i64 c)] (.v (.int .i64 (cplV (valL l) c))) := by
  refine Fun.of_wp (pn := noPn) Tryd.tab Tryd.func11 rfl fun β0 => ?_
  simp only [Tryd.f11]
  repeat (first | refine WP.seq ?_ | refine WP.block ?_ | (refine WP.region Tryd.tab ?_; simp -dsimp) | (refine WP.draw Tryd.tab Tryd.mixed ?_; simp -dsimp) | refine And.intro (by first | rfl | omega | decide | (simp; done) | (simp; omega) | (intro _ h; exact fcs_side h; done) | (intros; simp_all; done) | (intros; simp_all; omega)) ?_)
  refine vcStop.makeMap 8 rfl (by simp) ?_
  simp -dsimp
  repeat (first | refine WP.seq ?_ | refine WP.block ?_ | (refine WP.region Tryd.tab ?_; simp -dsimp) | (refine WP.draw Tryd.tab Tryd.mixed ?_; simp -dsimp) | refine And.intro (by first | rfl | omega | decide | (simp; done) | (simp; omega) | (intro _ h; exact fcs_side h; done) | (intros; simp_all; done) | (intros; simp_all; omega)) ?_)
  refine vcStop.call0L Tryd.body17 (valid_ok l b hl hv) rfl rfl (And.intro (Leq.aggD [sgD l b]) trivial) ?_
  generalize valL l = all at hal hao
  simp -dsimp
  repeat (first | refine WP.seq ?_ | refine WP.block ?_ | (refine WP.region Tryd.tab ?_; simp -dsimp) | (refine WP.draw Tryd.tab Tryd.mixed ?_; simp -dsimp) | refine And.intro (by first | rfl | omega | decide | (simp; done) | (simp; omega) | (intro _ h; exact fcs_side h; done) | (intros; simp_all; done) | (intros; simp_all; omega)) ?_)
  refine WP.loopWk (fun m S => ∃ i, i + m = all.length ∧ S = mkS 32 [(1, .d (.v (.int .i64 c))), (4, .d (.v (.int .i64 0))), (5, .row 506), (10, .d (slF all)), (11, .d (.v (.int .i64 all.length))), (12, .d (.v (.int .i64 (i : Nat))))] [(506, .mp (refsM (rfs all i)))]) all.length
    (S0 := mkS 32 [(1, .d (.v (.int .i64 c))), (4, .d (.v (.int .i64 0))), (5, .row 506), (10, .d (slF all)), (11, .d (.v (.int .i64 all.length))), (12, .d (.v (.int .i64 0)))] [(506, .mp (refsM []))]) (Wk.go [] 8 506 (by decide) (by simp) (by simp) (by simp [refsM])) ⟨0, by omega, rfl⟩ ?_
  rintro m _ ⟨i, him, rfl⟩
  simp -dsimp
  repeat (first | refine WP.seq ?_ | refine WP.block ?_ | (refine WP.region Tryd.tab ?_; simp -dsimp) | (refine WP.draw Tryd.tab Tryd.mixed ?_; simp -dsimp) | refine And.intro (by first | rfl | omega | decide | (simp; done) | (simp; omega) | (intro _ h; exact fcs_side h; done) | (intros; simp_all; done) | (intros; simp_all; omega)) ?_)
  by_cases hi : i < all.length
  · have e1 : IntKind.i64.wrap ((i : Int) + 1) = ((i + 1 : Nat) : Int) := by rw [IntWalk.i64_in _ (by omega)]; omega
    have h1 := fsC_at hi
    have hfo := hao _ (fat_in hi)
    have hI := rfs_I hao i (by omega)
    have hrs : rfs all (i + 1) = addRef (rfs all i) (refF (fat all i)) := rfl
    generalize fat all i = f at h1 hfo hrs
    obtain ⟨lk, hlk⟩ := ref_key (r := refF f) (hfo.1 0) (hfo.1 1)
    refine WP.cond (b := true) (by simp; omega) (fun _ => ?_) (fun h => by cases h)
    refine WP.skip ?_
    simp -dsimp
    refine WP.seq (WP.block ?_)
    repeat (first | refine WP.seq ?_ | refine WP.block ?_ | (refine WP.region Tryd.tab ?_; simp -dsimp [h1]) | (refine WP.draw Tryd.tab Tryd.mixed ?_; simp -dsimp [h1]) | refine And.intro (by first | rfl | omega | decide | (simp; done) | (simp; omega) | (intro _ h; exact fcs_side h; done) | (intros; simp_all; done) | (intros; simp_all; omega)) ?_)
    refine vcStop.mapPut Tryd.tab rfl rfl ref_keyed (j := 506) rfl (kvs := refsM (rfs all i)) (refsM (rfs all (i + 1))) rfl (key := refV (refF f)) (ref_leq _ _) (d := .v (.bool true)) (.refl _) hlk (refs_keys hI) (by rw [hrs]; exact refs_put _ _) ?_
    simp -dsimp
    repeat (first | refine WP.seq ?_ | refine WP.block ?_ | (refine WP.region Tryd.tab ?_; simp -dsimp) | (refine WP.draw Tryd.tab Tryd.mixed ?_; simp -dsimp) | refine And.intro (by first | rfl | omega | decide | (simp; done) | (simp; omega) | (intro _ h; exact fcs_side h; done) | (intros; simp_all; done) | (intros; simp_all; omega)) ?_)
    refine loopW.next (mkS 32 [(1, .d (.v (.int .i64 c))), (4, .d (.v (.int .i64 0))), (5, .row 506), (10, .d (slF all)), (11, .d (.v (.int .i64 all.length))), (12, .d (.v (.int .i64 ((i + 1 : Nat) : Int))))] [(506, .mp (refsM (rfs all (i + 1))))]) (Wk.lessE [7] (by simp [e1]) (by simp)) (m - 1) (by omega) ⟨i + 1, by omega, rfl⟩
  · have hie : i = all.length := by omega
    subst hie
    have hI := rfs_I hao _ (Nat.le_refl _)
    have hrl := rfs_len all all.length
    have hV : cplV all c = runL (rfs all all.length) c ((rfs all all.length).length + 1) 0 := rfl
    rw [hV]
    generalize rfs all all.length = R at hI hrl
    generalize hT : runL R c (R.length + 1) 0 = T
    refine WP.cond (b := false) (by simp) (fun h => by cases h) (fun _ => ?_)
    refine WP.exit ?_
    simp -dsimp
    repeat (first | refine WP.seq ?_ | refine WP.block ?_ | (refine WP.region Tryd.tab ?_; simp -dsimp) | (refine WP.draw Tryd.tab Tryd.mixed ?_; simp -dsimp) | refine And.intro (by first | rfl | omega | decide | (simp; done) | (simp; omega) | (intro _ h; exact fcs_side h; done) | (intros; simp_all; done) | (intros; simp_all; omega)) ?_)
    refine WP.loopWk (fun m S => ∃ n : Nat, m + n = R.length + 1 ∧ (∀ i : Nat, i < n → (c, (i : Int) + 1) ∈ R) ∧ T = runL R c m n ∧ S = mkS 32 [(1, .d (.v (.int .i64 c))), (4, .d (.v (.int .i64 (n : Nat)))), (5, .row 506)] [(506, .mp (refsM R))]) (R.length + 1)
      (S0 := mkS 32 [(1, .d (.v (.int .i64 c))), (4, .d (.v (.int .i64 0))), (5, .row 506)] [(506, .mp (refsM R))]) (Wk.lessE [] (by simp) (by simp)) ⟨0, by omega, (fun i h => absurd h (Nat.not_lt_zero i)), hT.symm, rfl⟩ ?_
    rintro k _ ⟨n, hkn, hin, hrun, rfl⟩
    have hnr := cpl_room hin
    have e2 : IntKind.i64.wrap ((n : Int) + 1) = (n : Int) + 1 := IntWalk.i64_in _ (by omega)
    obtain ⟨lk, hlk⟩ := ref_key (r := (c, (n : Int) + 1)) hc (by unfold isI; omega)
    simp -dsimp
    repeat (first | refine WP.seq ?_ | refine WP.block ?_ | (refine WP.region Tryd.tab ?_; simp -dsimp [e2]) | (refine WP.draw Tryd.tab Tryd.mixed ?_; simp -dsimp [e2]) | refine And.intro (by first | rfl | omega | decide | (simp; done) | (simp; omega) | (intro _ h; exact fcs_side h; done) | (intros; simp_all; done) | (intros; simp_all; omega)) ?_)
    refine vcStop.mapGet Tryd.tab rfl rfl ref_keyed Tryd.zeroValue4 (j := 506) rfl (kvs := refsM R) rfl (key := refV (c, (n : Int) + 1)) (ref_leq _ _) (.v (.bool (decide ((c, (n : Int) + 1) ∈ R)))) hlk (refs_keys hI) (refs_get R _) ?_
    simp -dsimp
    repeat (first | refine WP.seq ?_ | refine WP.block ?_ | (refine WP.region Tryd.tab ?_; simp -dsimp) | (refine WP.draw Tryd.tab Tryd.mixed ?_; simp -dsimp) | refine And.intro (by first | rfl | omega | decide | (simp; done) | (simp; omega) | (intro _ h; exact fcs_side h; done) | (intros; simp_all; done) | (intros; simp_all; omega)) ?_)
    obtain ⟨k, rfl⟩ : ∃ j, k = j + 1 := ⟨k - 1, by omega⟩
    rw [runL] at hrun
    refine WP.cond (b := decide ((c, (n : Int) + 1) ∈ R)) (by simp) (fun hb => ?_) (fun hb => ?_)
    · have hb := of_decide_eq_true hb
      rw [if_pos hb] at hrun
      refine WP.skip ?_
      simp -dsimp
      repeat (first | refine WP.seq ?_ | refine WP.block ?_ | (refine WP.region Tryd.tab ?_; simp -dsimp) | (refine WP.draw Tryd.tab Tryd.mixed ?_; simp -dsimp) | refine And.intro (by first | rfl | omega | decide | (simp; done) | (simp; omega) | (intro _ h; exact fcs_side h; done) | (intros; simp_all; done) | (intros; simp_all; omega)) ?_)
      refine loopW.next (mkS 32 [(1, .d (.v (.int .i64 c))), (4, .d (.v (.int .i64 ((n + 1 : Nat) : Int)))), (5, .row 506)] [(506, .mp (refsM R))]) (Wk.lessE [] (by simp [e2]) (by simp)) k (by omega) ⟨n + 1, by omega, fun i hi => ?_, hrun, rfl⟩
      rcases Nat.lt_or_ge i n with h1 | h1
      · exact hin i h1
      · rw [show i = n by omega]; exact hb
    · have hb := of_decide_eq_false hb
      rw [if_neg hb] at hrun
      refine WP.exit ?_
      simp -dsimp
      repeat (first | refine WP.seq ?_ | refine WP.block ?_ | (refine WP.region Tryd.tab ?_; simp -dsimp) | (refine WP.draw Tryd.tab Tryd.mixed ?_; simp -dsimp) | refine And.intro (by first | rfl | omega | decide | (simp; done) | (simp; omega) | (intro _ h; exact fcs_side h; done) | (intros; simp_all; done) | (intros; simp_all; omega)) ?_)
      rw [hrun]
      refine WP.ret (finQ.retE ?_)
      simp -dsimp
end Go.Proofs.YtghfancmonhkcaaDoor
