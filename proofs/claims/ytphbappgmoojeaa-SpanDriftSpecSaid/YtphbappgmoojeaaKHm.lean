/-
  Spans: the reference's Meet.
-/
import Derived.Test.YtphbappgmoojeaaKHl
set_option linter.unusedSectionVars false
set_option linter.unusedSimpArgs false
set_option linter.unusedVariables false
namespace Go.Proofs.Ytphbappgmoojeaa
open Go.Xe Go.RowKit

theorem cut_okS {x y : Sp} (hx : okS x = true) (hy : okS y = true) (h : max x.1 y.1 ≤ min x.2 y.2) : okS (max x.1 y.1, min x.2 y.2) = true := by
  simp only [okS, Bool.and_eq_true, decide_eq_true_eq] at *
  omega
theorem cut_all {x y : Sp} (hx : okS x = true) (hy : okS y = true) : ∀ s ∈ cut x y, okS s = true := by
  unfold cut
  split
  · rename_i h; intro s hs; simp at hs; subst hs; exact cut_okS hx hy h
  · simp
theorem cuts_okS {a b : List Sp} (ha : ∀ s ∈ a, okS s = true) (hb : ∀ s ∈ b, okS s = true) : ∀ s ∈ cuts a b, okS s = true := by
  intro s hs
  simp only [cuts, List.mem_flatMap] at hs
  obtain ⟨x, hx, y, hy, h⟩ := hs
  exact cut_all (ha x hx) (hb y hy) s h
theorem cut_le (x y : Sp) : (cut x y).length ≤ 1 := by unfold cut; split <;> simp
theorem flat_le {α : Type} (f : α → List Sp) (c : Nat) (l : List α) (h : ∀ x ∈ l, (f x).length ≤ c) : (l.flatMap f).length ≤ l.length * c := by
  induction l with
  | nil => simp
  | cons x l ih =>
    have h1 := h x (by simp)
    have h2 := ih fun y hy => h y (by simp [hy])
    simp only [List.flatMap_cons, List.length_append, List.length_cons, Nat.add_mul]
    omega
theorem cuts_len (a b : List Sp) : (cuts a b).length ≤ a.length * b.length := flat_le _ _ _ fun x _ => by
  have h : (b.flatMap fun y => cut x y).length ≤ b.length * 1 := flat_le _ 1 b fun y _ => cut_le x y
  omega
theorem cuts_snoc (l : List Sp) (x : Sp) (b : List Sp) : cuts (l ++ [x]) b = cuts l b ++ b.flatMap (cut x) := by simp [cuts]
set_option maxRecDepth 10000 in
set_option maxHeartbeats 4000000 in
theorem refMeet_ok (a b : List Sp) (hla : a.length ≤ 100) (hlb : b.length ≤ 100) : Fn0 Try.prog 28 [slS a, slS b] (resD (meetR a b)) := by
  refine Fun.of_wp (pn := noPn) Try.tab Try.func28 rfl fun β0 => ?_
  simp only [Try.f28]
  repeat (first | refine WP.seq ?_ | refine WP.block ?_ | (refine WP.region Try.tab ?_; simp -dsimp) | (refine WP.draw Try.tab Try.mixed ?_; simp -dsimp) | refine And.intro (by first | rfl | omega | decide | (simp; done) | (simp; omega) | (intro _ h; exact fcs_side h; done) | (intros; simp_all; done)) ?_)
  refine vcStop.call0 Try.body36 (both2_ok a b) rfl rfl (by simp) ?_
  simp -dsimp
  repeat (first | refine WP.seq ?_ | refine WP.block ?_ | (refine WP.region Try.tab ?_; simp -dsimp) | (refine WP.draw Try.tab Try.mixed ?_; simp -dsimp) | refine And.intro (by first | rfl | omega | decide | (simp; done) | (simp; omega) | (intro _ h; exact fcs_side h; done) | (intros; simp_all; done)) ?_)
  refine WP.cond (b := !decide (chkLs [a, b] = 0)) (by simp) (fun hb => ?_) (fun hb => ?_)
  · have hb : ¬ chkLs [a, b] = 0 := by simpa using hb
    repeat (first | refine WP.seq ?_ | refine WP.block ?_ | (refine WP.region Try.tab ?_; simp -dsimp) | (refine WP.draw Try.tab Try.mixed ?_; simp -dsimp) | refine And.intro (by first | rfl | omega | decide | (simp; done) | (simp; omega) | (intro _ h; exact fcs_side h; done) | (intros; simp_all; done)) ?_)
    refine WP.ret (finQ.retE ?_)
    simp -dsimp [meetR, bothR, hb]
  have hb : chkLs [a, b] = 0 := by simpa using hb
  obtain ⟨⟨_, a2⟩, _, b2⟩ := chk2_zero hb
  refine WP.skip ?_
  simp -dsimp
  repeat (first | refine WP.seq ?_ | refine WP.block ?_ | (refine WP.region Try.tab ?_; simp -dsimp) | (refine WP.draw Try.tab Try.mixed ?_; simp -dsimp) | refine And.intro (by first | rfl | omega | decide | (simp; done) | (simp; omega) | (intro _ h; exact fcs_side h; done) | (intros; simp_all; done)) ?_)
  refine WP.loopWk (fun m S => ∃ l1 l2, a = l1 ++ l2 ∧ m = l2.length ∧ S = mkS 65 [(0, .d (slS a)), (1, .d (slS b)), (7, .d (slS (tidyR (cuts l1 b)))), (8, .d (.v (.int .i64 l1.length)))] []) a.length
    (S0 := mkS 65 [(0, .d (slS a)), (1, .d (slS b)), (7, .d (slS [])), (8, .d (.v (.int .i64 0)))] []) ((Wk.freeze (k := 17) (T := 37) (sz := 2) (n := 0) (ds := []) (by simp)).trans (Wk.lessE [] (by simp) (by simp))) ⟨[], a, rfl, rfl, rfl⟩ ?_
  rintro _ _ ⟨l1, l2, hl12, rfl, rfl⟩
  simp -dsimp
  repeat (first | refine WP.seq ?_ | refine WP.block ?_ | (refine WP.region Try.tab ?_; simp -dsimp) | (refine WP.draw Try.tab Try.mixed ?_; simp -dsimp) | refine And.intro (by first | rfl | omega | decide | (simp; done) | (simp; omega) | (intro _ h; exact fcs_side h; done) | (intros; simp_all; done)) ?_)
  cases l2 with
  | nil =>
    simp only [List.append_nil] at hl12
    subst hl12
    refine WP.cond (b := false) (by simp) (fun h => by cases h) (fun _ => ?_)
    refine WP.exit ?_
    simp -dsimp
    repeat (first | refine WP.seq ?_ | refine WP.block ?_ | (refine WP.region Try.tab ?_; simp -dsimp) | (refine WP.draw Try.tab Try.mixed ?_; simp -dsimp) | refine And.intro (by first | rfl | omega | decide | (simp; done) | (simp; omega) | (intro _ h; exact fcs_side h; done) | (intros; simp_all; done)) ?_)
    refine vcStop.call0 Try.body39 (refLimited_ok (tidyR (cuts a b))) rfl rfl (by simp) ?_
    simp -dsimp
    repeat (first | refine WP.seq ?_ | refine WP.block ?_ | (refine WP.region Try.tab ?_; simp -dsimp) | (refine WP.draw Try.tab Try.mixed ?_; simp -dsimp) | refine And.intro (by first | rfl | omega | decide | (simp; done) | (simp; omega) | (intro _ h; exact fcs_side h; done) | (intros; simp_all; done)) ?_)
    refine WP.ret (finQ.retE ?_)
    simp -dsimp [meetR, bothR, hb]
  | cons x l2 =>
    have hll : a.length = l1.length + (l2.length + 1) := by rw [hl12]; simp
    have hx : okS x = true := a2 x (by rw [hl12]; simp)
    have hl1 : ∀ s ∈ l1, okS s = true := fun s h => a2 s (by rw [hl12]; simp [h])
    have e1 : IntKind.i64.wrap ((l1.length : Int) + 1) = (l1.length : Int) + 1 := IntWalk.i64_in _ (by omega)
    have h1 := spC_at l1 x l2
    rw [← hl12] at h1
    refine WP.cond (b := true) (by simp; omega) (fun _ => ?_) (fun h => by cases h)
    refine WP.skip ?_
    simp -dsimp
    refine WP.seq (WP.block ?_)
    repeat (first | refine WP.seq ?_ | refine WP.block ?_ | (refine WP.region Try.tab ?_; simp -dsimp) | (refine WP.draw Try.tab Try.mixed ?_; simp -dsimp) | refine And.intro (by first | rfl | omega | decide | (simp; done) | (simp; omega) | (intro _ h; exact fcs_side h; done) | (intros; simp_all; done)) ?_)
    refine WP.loopWk (fun m S => ∃ b1 b3, b = b1 ++ b3 ∧ m = b3.length ∧ S = mkS 65 [(0, .d (slS a)), (1, .d (slS b)), (7, .d (slS (tidyR (cuts l1 b ++ b1.flatMap (cut x))))), (8, .d (.v (.int .i64 l1.length))), (9, .d (.v (.int .i64 b1.length)))] []) b.length
      (S0 := mkS 65 [(0, .d (slS a)), (1, .d (slS b)), (7, .d (slS (tidyR (cuts l1 b)))), (8, .d (.v (.int .i64 l1.length))), (9, .d (.v (.int .i64 0)))] []) (Wk.lessE [] (by simp) (by simp)) ⟨[], b, rfl, rfl, by simp⟩ ?_
    rintro _ _ ⟨b1, b3, hb13, rfl, rfl⟩
    simp -dsimp
    repeat (first | refine WP.seq ?_ | refine WP.block ?_ | (refine WP.region Try.tab ?_; simp -dsimp) | (refine WP.draw Try.tab Try.mixed ?_; simp -dsimp) | refine And.intro (by first | rfl | omega | decide | (simp; done) | (simp; omega) | (intro _ h; exact fcs_side h; done) | (intros; simp_all; done)) ?_)
    cases b3 with
    | nil =>
      simp only [List.append_nil] at hb13
      subst hb13
      refine WP.cond (b := false) (by simp) (fun h => by cases h) (fun _ => ?_)
      refine WP.exit ?_
      simp -dsimp
      repeat (first | refine WP.seq ?_ | refine WP.block ?_ | (refine WP.region Try.tab ?_; simp -dsimp) | (refine WP.draw Try.tab Try.mixed ?_; simp -dsimp) | refine And.intro (by first | rfl | omega | decide | (simp; done) | (simp; omega) | (intro _ h; exact fcs_side h; done) | (intros; simp_all; done)) ?_)
      refine loopW.next (mkS 65 [(0, .d (slS a)), (1, .d (slS b)), (7, .d (slS (tidyR (cuts (l1 ++ [x]) b)))), (8, .d (.v (.int .i64 (l1 ++ [x]).length)))] []) (Wk.lessE [] (by simp [e1, cuts_snoc]) (by simp)) l2.length (by simp) ⟨l1 ++ [x], l2, by simp [hl12], rfl, rfl⟩
    | cons y b3 =>
      have hlb1 : b.length = b1.length + (b3.length + 1) := by rw [hb13]; simp
      have hy : okS y = true := b2 y (by rw [hb13]; simp)
      have hb1 : ∀ s ∈ b1, okS s = true := fun s h => b2 s (by rw [hb13]; simp [h])
      have e2 : IntKind.i64.wrap ((b1.length : Int) + 1) = (b1.length : Int) + 1 := IntWalk.i64_in _ (by omega)
      have h2 := spC_at b1 y b3
      rw [← hb13] at h2
      have hP : ∀ s ∈ cuts l1 b ++ b1.flatMap (cut x), okS s = true := fun s h => by
        rcases List.mem_append.1 h with h | h
        · exact cuts_okS hl1 b2 s h
        · obtain ⟨z, hz, h⟩ := List.mem_flatMap.1 h
          exact cut_all hx (hb1 z hz) s h
      have hPl : (cuts l1 b ++ b1.flatMap (cut x)).length ≤ 20000 := by
        have h3 := cuts_len l1 b
        have h4 := flat_le (cut x) 1 b1 fun y _ => cut_le x y
        have h5 : l1.length * b.length ≤ 100 * 100 := Nat.mul_le_mul (by omega) hlb
        rw [List.length_append]
        omega
      have hTl := tidyR_len (cuts l1 b ++ b1.flatMap (cut x))
      have hs : cuts l1 b ++ (b1 ++ [y]).flatMap (cut x) = cuts l1 b ++ b1.flatMap (cut x) ++ cut x y := by simp
      have hsl : (b1 ++ [y]).length = b1.length + 1 := by simp
      refine WP.cond (b := true) (by simp; omega) (fun _ => ?_) (fun h => by cases h)
      refine WP.skip ?_
      simp -dsimp
      refine WP.seq (WP.block ?_)
      repeat (first | refine WP.seq ?_ | refine WP.block ?_ | (refine WP.region Try.tab ?_; simp -dsimp [h1, h2]) | (refine WP.draw Try.tab Try.mixed ?_; simp -dsimp [h1, h2]) | refine And.intro (by first | rfl | omega | decide | (simp; done) | (simp; omega) | (intro _ h; exact fcs_side h; done) | (intros; simp_all; done)) ?_)
      refine WP.cond (b := decide (max x.1 y.1 ≤ min x.2 y.2)) (by simp) (fun hc => ?_) (fun hc => ?_)
      · have hc := of_decide_eq_true hc
        have ec : cut x y = [(max x.1 y.1, min x.2 y.2)] := by rw [cut, if_pos hc]
        repeat (first | refine WP.seq ?_ | refine WP.block ?_ | (refine WP.region Try.tab ?_; simp -dsimp) | (refine WP.draw Try.tab Try.mixed ?_; simp -dsimp) | refine And.intro (by first | rfl | omega | decide | (simp; done) | (simp; omega) | (intro _ h; exact fcs_side h; done) | (intros; simp_all; done)) ?_)
        refine vcStop.call0 Try.body38 (with_ok (tidyR (cuts l1 b ++ b1.flatMap (cut x))) (max x.1 y.1, min x.2 y.2) (by omega) (tidyR_tidy hP) (tidyR_okS hP) (cut_okS hx hy hc)) rfl rfl (by simp) ?_
        simp -dsimp
        repeat (first | refine WP.seq ?_ | refine WP.block ?_ | (refine WP.region Try.tab ?_; simp -dsimp) | (refine WP.draw Try.tab Try.mixed ?_; simp -dsimp) | refine And.intro (by first | rfl | omega | decide | (simp; done) | (simp; omega) | (intro _ h; exact fcs_side h; done) | (intros; simp_all; done)) ?_)
        refine loopW.next (mkS 65 [(0, .d (slS a)), (1, .d (slS b)), (7, .d (slS (tidyR (cuts l1 b ++ (b1 ++ [y]).flatMap (cut x))))), (8, .d (.v (.int .i64 l1.length))), (9, .d (.v (.int .i64 (b1 ++ [y]).length)))] []) (Wk.lessE [] (by rw [hs, ec, tidyR_snoc, hsl]; simp [e2]) (by simp)) b3.length (by simp) ⟨b1 ++ [y], b3, by simp [hb13], rfl, rfl⟩
      · have hc := of_decide_eq_false hc
        have ec : cut x y = [] := by rw [cut, if_neg hc]
        refine WP.skip ?_
        simp -dsimp
        repeat (first | refine WP.seq ?_ | refine WP.block ?_ | (refine WP.region Try.tab ?_; simp -dsimp) | (refine WP.draw Try.tab Try.mixed ?_; simp -dsimp) | refine And.intro (by first | rfl | omega | decide | (simp; done) | (simp; omega) | (intro _ h; exact fcs_side h; done) | (intros; simp_all; done)) ?_)
        refine loopW.next (mkS 65 [(0, .d (slS a)), (1, .d (slS b)), (7, .d (slS (tidyR (cuts l1 b ++ (b1 ++ [y]).flatMap (cut x))))), (8, .d (.v (.int .i64 l1.length))), (9, .d (.v (.int .i64 (b1 ++ [y]).length)))] []) (Wk.lessE [] (by rw [hs, ec, List.append_nil, hsl]; simp [e2]) (by simp)) b3.length (by simp) ⟨b1 ++ [y], b3, by simp [hb13], rfl, rfl⟩
end Go.Proofs.Ytphbappgmoojeaa
