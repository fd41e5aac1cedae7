/-
  Spans: the sums of the spans of two lists, one after the other; Add.
-/
import Derived.Test.YtphbappgmoojeaaKHl
import Derived.Test.YtphbappgmoojeaaKHm
set_option linter.unusedSectionVars false
set_option linter.unusedSimpArgs false
set_option linter.unusedVariables false
namespace Go.Proofs.Ytphbappgmoojeaa
open Go.Xe Go.RowKit

def adS (x y : Sp) : Sp := (x.1 + y.1, x.2 + y.2)
theorem sumsL_len (a b : List Sp) : (sumsL a b).length = a.length * b.length := by
  induction a with
  | nil => simp [sumsL]
  | cons x a ih => simp only [sumsL, List.flatMap_cons, List.length_append, List.length_map, List.length_cons, Nat.add_mul] at *; omega
theorem sums_split (l1 l2 b1 b2 : List Sp) (x y : Sp) : sumsL (l1 ++ x :: l2) (b1 ++ y :: b2) = (sumsL l1 (b1 ++ y :: b2) ++ b1.map (adS x)) ++ adS x y :: (b2.map (adS x) ++ sumsL l2 (b1 ++ y :: b2)) := by
  have h : ∀ x : Sp, adS x = fun y => (x.1 + y.1, x.2 + y.2) := fun _ => rfl
  simp [sumsL, h]
theorem getD_at {α : Type} (d : α) (p : List α) (x : α) (q : List α) : (p ++ x :: q).getD p.length d = x := by simp
theorem sums_get {a b l1 l2 b1 b2 : List Sp} {x y : Sp} (ha : a = l1 ++ x :: l2) (hb : b = b1 ++ y :: b2) : (sumsL a b).getD (l1.length * b.length + b1.length) (0, 0) = adS x y ∧ l1.length * b.length + b1.length < (sumsL a b).length := by
  have h := sums_split l1 l2 b1 b2 x y
  rw [← ha, ← hb] at h
  have hl : (sumsL l1 b ++ b1.map (adS x)).length = l1.length * b.length + b1.length := by rw [List.length_append, sumsL_len, List.length_map]
  refine ⟨?_, ?_⟩
  · rw [← hl, h]; exact getD_at _ _ _ _
  · rw [h, List.length_append, hl]; simp
theorem sums_okS {x y : Sp} (hx : okS x = true) (hy : okS y = true) : IntKind.i64.wrap (x.1 + y.1) = x.1 + y.1 ∧ IntKind.i64.wrap (x.2 + y.2) = x.2 + y.2 := by
  simp only [okS, Bool.and_eq_true, decide_eq_true_eq] at *
  exact ⟨IntWalk.i64_in _ (by omega), IntWalk.i64_in _ (by omega)⟩
set_option maxRecDepth 10000 in
set_option maxHeartbeats 4000000 in
theorem sums_it (a b : List Sp) (goes : Nat → Bool) (m : Nat) (ha : ∀ s ∈ a, okS s = true) (hb : ∀ s ∈ b, okS s = true) (hm : m ≤ (sumsL a b).length) (hg : ∀ i, i + 1 < m → goes i = true) (he : m = (sumsL a b).length ∨ 0 < m ∧ goes (m - 1) = false) :
    IterOk Try.prog 53 [.ptr 1000 0, .ptr 1001 0] [(1000, .cells 22 [.d (slS a)]), (1001, .cells 22 [.d (slS b)])] (fun i => [spD ((sumsL a b).getD i (0, 0))]) goes m := by
  intro lp B hB
  have hml : (sumsL a b).length = a.length * b.length := sumsL_len a b
  simp only [List.cons_append, List.nil_append]
  refine Fun.of_wp (pn := noPn) Try.tab Try.func53 rfl fun β0 => ?_
  simp only [Try.f53]
  repeat (first | refine WP.seq ?_ | refine WP.block ?_ | (refine WP.region Try.tab ?_; simp -dsimp) | (refine WP.draw Try.tab Try.mixed ?_; simp -dsimp) | refine And.intro (by first | rfl | omega | decide | (simp; done) | (simp; omega) | (intro _ h; exact fcs_side h; done) | (intros; simp_all; done)) ?_)
  refine WP.len (.tmp 8) rfl fun hl => ?_
  have hmx : maxLen = 9223372036854775807 := rfl
  rw [hmx] at hl
  refine WP.loopWk (fun q S => ∃ l1 l2, a = l1 ++ l2 ∧ q = l2.length ∧ l1.length * b.length ≤ m ∧ (l1.length * b.length = m → m = (sumsL a b).length) ∧
      S = mkS 36 [(0, .d (.v (.func (.yield lp) #[] #[]))), (1, .ptr 1000 0), (2, .ptr 1001 0), (8, .d (slS a)), (9, .d (.v (.int .i64 a.length))), (10, .d (.v (.int .i64 l1.length)))] [(1000, .cells 22 [.d (slS a)]), (1001, .cells 22 [.d (slS b)]), (500, .opq (B (l1.length * b.length)))]) a.length
    (S0 := mkS 36 [(0, .d (.v (.func (.yield lp) #[] #[]))), (1, .ptr 1000 0), (2, .ptr 1001 0), (8, .d (slS a)), (9, .d (.v (.int .i64 a.length))), (10, .d (.v (.int .i64 0)))] [(1000, .cells 22 [.d (slS a)]), (1001, .cells 22 [.d (slS b)]), (500, .opq (B 0))])
    (Wk.go [] 1999 500 (by decide) (by simp) (by simp) (by simp)) ⟨[], a, rfl, rfl, by simp, fun h => by
      rcases he with he | he
      · exact he
      · simp at h; omega, by simp⟩ ?_
  rintro _ _ ⟨l1, l2, hl12, rfl, hq1, hq2, rfl⟩
  simp -dsimp
  repeat (first | refine WP.seq ?_ | refine WP.block ?_ | (refine WP.region Try.tab ?_; simp -dsimp) | (refine WP.draw Try.tab Try.mixed ?_; simp -dsimp) | refine And.intro (by first | rfl | omega | decide | (simp; done) | (simp; omega) | (intro _ h; exact fcs_side h; done) | (intros; simp_all; done)) ?_)
  cases l2 with
  | nil =>
    simp only [List.append_nil] at hl12
    subst hl12
    refine WP.cond (b := false) (by simp) (fun h => by cases h) (fun _ => ?_)
    refine WP.exit ?_
    simp -dsimp
    have hmm : a.length * b.length = m := by omega
    refine finQ.normalWE (S' := mkS 36 [] [(1000, .cells 22 [.d (slS a)]), (1001, .cells 22 [.d (slS b)]), (0, .opq (B m))]) (Wk.go [] 500 0 (by decide) (by simp) (by simp) (by simp [hmm])) ?_
    simp -dsimp
  | cons x l2 =>
    have hll : a.length = l1.length + (l2.length + 1) := by rw [hl12]; simp
    have hx : okS x = true := ha x (by rw [hl12]; simp)
    have e1 : IntKind.i64.wrap ((l1.length : Int) + 1) = (l1.length : Int) + 1 := IntWalk.i64_in _ (by omega)
    have h1 := spC_at l1 x l2
    rw [← hl12] at h1
    refine WP.cond (b := true) (by simp; omega) (fun _ => ?_) (fun h => by cases h)
    refine WP.skip ?_
    simp -dsimp
    refine WP.seq (WP.block ?_)
    repeat (first | refine WP.seq ?_ | refine WP.block ?_ | (refine WP.region Try.tab ?_; simp -dsimp [h1]) | (refine WP.draw Try.tab Try.mixed ?_; simp -dsimp [h1]) | refine And.intro (by first | rfl | omega | decide | (simp; done) | (simp; omega) | (intro _ h; exact fcs_side h; done) | (intros; simp_all; done)) ?_)
    refine WP.len (.tmp 14) rfl fun hlb => ?_
    rw [hmx] at hlb
    refine WP.loopWk (fun q S => ∃ b1 b2, b = b1 ++ b2 ∧ q = b2.length ∧ l1.length * b.length + b1.length ≤ m ∧ (l1.length * b.length + b1.length = m → m = (sumsL a b).length) ∧
        S = mkS 36 [(0, .d (.v (.func (.yield lp) #[] #[]))), (1, .ptr 1000 0), (2, .ptr 1001 0), (5, .ptr 5 0), (8, .d (slS a)), (9, .d (.v (.int .i64 a.length))), (10, .d (.v (.int .i64 l1.length))), (14, .d (slS b)), (15, .d (.v (.int .i64 b.length))), (16, .d (.v (.int .i64 b1.length)))]
          [(1000, .cells 22 [.d (slS a)]), (1001, .cells 22 [.d (slS b)]), (5, .cells 37 [.d (.v (.int .i64 x.1)), .d (.v (.int .i64 x.2))]), (500, .opq (B (l1.length * b.length + b1.length)))]) b.length
      (S0 := mkS 36 [(0, .d (.v (.func (.yield lp) #[] #[]))), (1, .ptr 1000 0), (2, .ptr 1001 0), (5, .ptr 5 0), (8, .d (slS a)), (9, .d (.v (.int .i64 a.length))), (10, .d (.v (.int .i64 l1.length))), (14, .d (slS b)), (15, .d (.v (.int .i64 b.length))), (16, .d (.v (.int .i64 0)))]
          [(1000, .cells 22 [.d (slS a)]), (1001, .cells 22 [.d (slS b)]), (5, .cells 37 [.d (.v (.int .i64 x.1)), .d (.v (.int .i64 x.2))]), (500, .opq (B (l1.length * b.length)))])
      (Wk.lessE [] (by simp [h1]) (by simp [h1])) ⟨[], b, rfl, rfl, by simpa using hq1, by simpa using hq2, by simp⟩ ?_
    rintro _ _ ⟨b1, b2, hb12, rfl, hp1, hp2, rfl⟩
    simp -dsimp
    repeat (first | refine WP.seq ?_ | refine WP.block ?_ | (refine WP.region Try.tab ?_; simp -dsimp) | (refine WP.draw Try.tab Try.mixed ?_; simp -dsimp) | refine And.intro (by first | rfl | omega | decide | (simp; done) | (simp; omega) | (intro _ h; exact fcs_side h; done) | (intros; simp_all; done)) ?_)
    cases b2 with
    | nil =>
      simp only [List.append_nil] at hb12
      subst hb12
      refine WP.cond (b := false) (by simp) (fun h => by cases h) (fun _ => ?_)
      refine WP.exit ?_
      simp -dsimp
      repeat (first | refine WP.seq ?_ | refine WP.block ?_ | (refine WP.region Try.tab ?_; simp -dsimp) | (refine WP.draw Try.tab Try.mixed ?_; simp -dsimp) | refine And.intro (by first | rfl | omega | decide | (simp; done) | (simp; omega) | (intro _ h; exact fcs_side h; done) | (intros; simp_all; done)) ?_)
      have hpp : (l1 ++ [x]).length * b.length = l1.length * b.length + b.length := by rw [List.length_append, Nat.add_mul]; simp
      refine loopW.next (mkS 36 [(0, .d (.v (.func (.yield lp) #[] #[]))), (1, .ptr 1000 0), (2, .ptr 1001 0), (8, .d (slS a)), (9, .d (.v (.int .i64 a.length))), (10, .d (.v (.int .i64 (l1 ++ [x]).length)))] [(1000, .cells 22 [.d (slS a)]), (1001, .cells 22 [.d (slS b)]), (500, .opq (B ((l1 ++ [x]).length * b.length)))])
        (Wk.lessE [5] (by simp [e1]) (by rw [hpp]; simp)) l2.length (by simp) ⟨l1 ++ [x], l2, by simp [hl12], rfl, by omega, by rw [hpp]; exact hp2, rfl⟩
    | cons y b2 =>
      have hlb1 : b.length = b1.length + (b2.length + 1) := by rw [hb12]; simp
      have hy : okS y = true := hb y (by rw [hb12]; simp)
      obtain ⟨w1, w2⟩ := sums_okS hx hy
      have e2 : IntKind.i64.wrap ((b1.length : Int) + 1) = (b1.length : Int) + 1 := IntWalk.i64_in _ (by omega)
      have h2 := spC_at b1 y b2
      rw [← hb12] at h2
      obtain ⟨hgt, hps⟩ := sums_get hl12 hb12
      have hpm : l1.length * b.length + b1.length < m := by
        rcases Nat.lt_or_ge (l1.length * b.length + b1.length) m with h | h
        · exact h
        · have := hp2 (by omega); omega
      have hyy := hB _ hpm
      simp only [hgt, adS] at hyy
      refine WP.cond (b := true) (by simp; omega) (fun _ => ?_) (fun h => by cases h)
      refine WP.skip ?_
      simp -dsimp
      refine WP.seq (WP.block ?_)
      repeat (first | refine WP.seq ?_ | refine WP.block ?_ | (refine WP.region Try.tab ?_; simp -dsimp [h2, w1, w2]) | (refine WP.draw Try.tab Try.mixed ?_; simp -dsimp [h2, w1, w2]) | refine And.intro (by first | rfl | omega | decide | (simp; done) | (simp; omega) | (intro _ h; exact fcs_side h; done) | (intros; simp_all; done)) ?_)
      refine vcStop.yield hyy 500 501 rfl rfl (by simp [w1, w2]) rfl (by decide) (by simp) ?_
      simp -dsimp
      repeat (first | refine WP.seq ?_ | refine WP.block ?_ | (refine WP.region Try.tab ?_; simp -dsimp) | (refine WP.draw Try.tab Try.mixed ?_; simp -dsimp) | refine And.intro (by first | rfl | omega | decide | (simp; done) | (simp; omega) | (intro _ h; exact fcs_side h; done) | (intros; simp_all; done)) ?_)
      refine WP.cond (b := !goes (l1.length * b.length + b1.length)) (by simp) (fun hgo => ?_) (fun hgo => ?_)
      · have hgo : goes (l1.length * b.length + b1.length) = false := by simpa using hgo
        have hme : l1.length * b.length + b1.length + 1 = m := by
          rcases Nat.lt_or_ge (l1.length * b.length + b1.length + 1) m with h | h
          · rw [hg _ h] at hgo; cases hgo
          · omega
        refine WP.ret (finQ.retWE (S' := mkS 36 [] [(1000, .cells 22 [.d (slS a)]), (1001, .cells 22 [.d (slS b)]), (0, .opq (B m))]) (Wk.go [] 501 0 (by decide) (by simp) (by simp) (by simp [hme])) ?_)
        simp -dsimp
      · have hgo : goes (l1.length * b.length + b1.length) = true := by simpa using hgo
        have hnx : l1.length * b.length + b1.length + 1 = m → m = (sumsL a b).length := fun h => by
          rcases he with he | ⟨_, he⟩
          · exact he
          · rw [← h, Nat.add_sub_cancel, hgo] at he; cases he
        refine WP.skip ?_
        simp -dsimp
        repeat (first | refine WP.seq ?_ | refine WP.block ?_ | (refine WP.region Try.tab ?_; simp -dsimp) | (refine WP.draw Try.tab Try.mixed ?_; simp -dsimp) | refine And.intro (by first | rfl | omega | decide | (simp; done) | (simp; omega) | (intro _ h; exact fcs_side h; done) | (intros; simp_all; done)) ?_)
        have hsl : (b1 ++ [y]).length = b1.length + 1 := by simp
        refine loopW.next (mkS 36 [(0, .d (.v (.func (.yield lp) #[] #[]))), (1, .ptr 1000 0), (2, .ptr 1001 0), (5, .ptr 5 0), (8, .d (slS a)), (9, .d (.v (.int .i64 a.length))), (10, .d (.v (.int .i64 l1.length))), (14, .d (slS b)), (15, .d (.v (.int .i64 b.length))), (16, .d (.v (.int .i64 (b1 ++ [y]).length)))]
            [(1000, .cells 22 [.d (slS a)]), (1001, .cells 22 [.d (slS b)]), (5, .cells 37 [.d (.v (.int .i64 x.1)), .d (.v (.int .i64 x.2))]), (500, .opq (B (l1.length * b.length + (b1 ++ [y]).length)))])
          (Wk.go [7] 501 500 (by decide) (by simp) (by simp [e2]) (by rw [hsl]; simp [Nat.add_assoc])) b2.length (by simp) ⟨b1 ++ [y], b2, by simp [hb12], rfl, by omega, by rw [hsl]; exact hnx, rfl⟩
theorem sums_ok (a b : List Sp) : Fun Try.prog 34 [.d (slS a), .d (slS b)] [] (.fn (.func 53) [] [.ptr 0 0, .ptr 1 0]) [(0, .cells 22 [.d (slS a)]), (1, .cells 22 [.d (slS b)])] fun _ => False := by
  refine Fun.of_wp (pn := noPn) Try.tab Try.func34 rfl fun β0 => ?_
  simp only [Try.f34]
  repeat (first | refine WP.seq ?_ | refine WP.block ?_ | (refine WP.region Try.tab ?_; simp -dsimp) | (refine WP.draw Try.tab Try.mixed ?_; simp -dsimp) | refine And.intro (by first | rfl | omega | decide | (simp; done) | (simp; omega) | (intro _ h; exact fcs_side h; done) | (intros; simp_all; done)) ?_)
  refine WP.ret (finQ.retWE (S' := mkS 6 [(4, .fn (.func 53) [] [.ptr 0 0, .ptr 1 0])] [(0, .cells 22 [.d (slS a)]), (1, .cells 22 [.d (slS b)])]) (Wk.go2 [] 2 0 3 1 (by decide) (by decide) (by simp) (by simp) (by simp) (by simp)) ?_)
  simp -dsimp
end Go.Proofs.Ytphbappgmoojeaa
