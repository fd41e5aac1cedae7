/-
  Spans: Meet.
-/
import Derived.Test.YtphbappgmoojeaaKHk
set_option linter.unusedSectionVars false
set_option linter.unusedSimpArgs false
set_option linter.unusedVariables false
namespace Go.Proofs.Ytphbappgmoojeaa
open Go.Xe Go.RowKit

theorem limited_row (l : List Sp) : Fun Try.prog 35 [.row 1000] [(1000, .row 37 2 l.length ((spC l).map .d))] (.d (resD (limL l))) [] fun _ => False :=
  Fun.ofRow 1000 (T := 37) (cs := spC l) (limited_ok l) rfl rfl trivial
theorem tidyR_len (l : List Sp) : (tidyR l).length ≤ l.length := by
  have : ∀ (l o : List Sp), (l.foldl withS o).length ≤ o.length + l.length := by
    intro l
    induction l with
    | nil => intro o; simp
    | cons x l ih => intro o; have := ih (withS o x); have := withS_len o x; simp at *; omega
  have h := this l []
  rw [List.length_nil, Nat.zero_add] at h
  exact h
theorem tidyR_snoc (p : List Sp) (s : Sp) : tidyR (p ++ [s]) = withS (tidyR p) s := by rw [tidyR, List.foldl_append]; rfl
theorem tidyR_tidy {l : List Sp} (h : ∀ s ∈ l, okS s = true) : TidyL (tidyR l) := (tidyR_ok fun s hs => (okS_isS (h s hs)).2.2.1).1
theorem takeS (a : List Sp) : (spC a).take (a.length * 2) = spC a := List.take_of_length_le (by rw [spC_length]; exact Nat.le_refl _)

theorem meetL_nil1 (b : List Sp) : meetL [] b = [] := by
  rw [meetL]
  intro _ _ _ _ h; cases h
theorem meetL_nil2 (a : List Sp) : meetL a [] = [] := by
  rw [meetL]
  intro _ _ _ _ _ h; cases h
theorem meetL_cons (x y : Sp) (a b : List Sp) : meetL (x :: a) (y :: b) = cut x y ++ (if x.2 < y.2 then meetL a (y :: b) else meetL (x :: a) b) := by rw [meetL]
def meetR (a b : List Sp) : List Sp × Int := bothR a b (limL (tidyR (cuts a b)))
set_option maxRecDepth 10000 in
set_option maxHeartbeats 4000000 in
theorem meet_ok (a b : List Sp) : Fn0 Try.prog 27 [slS a, slS b] (resD (meetR a b)) := by
  refine Fun.of_wp (pn := noPn) Try.tab Try.func27 rfl fun β0 => ?_
  simp only [Try.f27]
  repeat (first | refine WP.seq ?_ | refine WP.block ?_ | (refine WP.region Try.tab ?_; simp -dsimp) | (refine WP.draw Try.tab Try.mixed ?_; simp -dsimp) | refine And.intro (by first | rfl | omega | decide | (simp; done) | (simp; omega) | (intro _ h; exact fcs_side h; done) | (intros; simp_all; done)) ?_)
  refine vcStop.call Try.body32 (check2_ok a b) (rl [(1000, 9)]) rfl rfl (by simp [BoxLeq]) (CallOk.of (by simp [BoxLeq]) rfl (by first | rfl | (simp [BoxLeq]; done)) (by simp [BoxLeq]) (by simp [BoxLeq])) (fun _ h => h.elim) (fun ⟨_, h⟩ => h.elim) (fun ⟨_, h⟩ => h.elim) (by simp [BoxLeq]) ?_
  simp -dsimp
  repeat (first | refine WP.seq ?_ | refine WP.block ?_ | (refine WP.region Try.tab ?_; simp -dsimp) | (refine WP.draw Try.tab Try.mixed ?_; simp -dsimp) | refine And.intro (by first | rfl | omega | decide | (simp; done) | (simp; omega) | (intro _ h; exact fcs_side h; done) | (intros; simp_all; done)) ?_)
  refine WP.cond (b := !decide (chkLs [a, b] = 0)) (by simp) (fun hb => ?_) (fun hb => ?_)
  · have hb : ¬ chkLs [a, b] = 0 := by simpa using hb
    repeat (first | refine WP.seq ?_ | refine WP.block ?_ | (refine WP.region Try.tab ?_; simp -dsimp) | (refine WP.draw Try.tab Try.mixed ?_; simp -dsimp) | refine And.intro (by first | rfl | omega | decide | (simp; done) | (simp; omega) | (intro _ h; exact fcs_side h; done) | (intros; simp_all; done)) ?_)
    refine WP.ret (finQ.retE ?_)
    simp -dsimp [meetR, bothR, hb]
  have hb : chkLs [a, b] = 0 := by simpa using hb
  obtain ⟨⟨a1, a2⟩, b1, b2⟩ := chk2_zero hb
  have hm : meetL (tidyR a) (tidyR b) = tidyR (cuts a b) := meet_same (fun s h => (okS_isS (a2 s h)).2.2.1) (fun s h => (okS_isS (b2 s h)).2.2.1)
  have hta := tidyR_len a
  have htb := tidyR_len b
  refine WP.skip ?_
  simp -dsimp
  repeat (first | refine WP.seq ?_ | refine WP.block ?_ | (refine WP.region Try.tab ?_; simp -dsimp) | (refine WP.draw Try.tab Try.mixed ?_; simp -dsimp) | refine And.intro (by first | rfl | omega | decide | (simp; done) | (simp; omega) | (intro _ h; exact fcs_side h; done) | (intros; simp_all; done)) ?_)
  refine vcStop.call0 Try.body33 (tidy_ok a (by omega) a2) rfl rfl (by simp) ?_
  simp -dsimp
  repeat refine And.intro (by first | rfl | omega | decide | (simp; done) | (simp; omega) | (intro _ h; exact fcs_side h; done) | (intros; simp_all; done)) ?_
  refine vcStop.call0 Try.body33 (tidy_ok b (by omega) b2) rfl rfl (by simp) ?_
  simp -dsimp
  repeat (first | refine WP.seq ?_ | refine WP.block ?_ | (refine WP.region Try.tab ?_; simp -dsimp) | (refine WP.draw Try.tab Try.mixed ?_; simp -dsimp) | refine And.intro (by first | rfl | omega | decide | (simp; done) | (simp; omega) | (intro _ h; exact fcs_side h; done) | (intros; simp_all; done)) ?_)
  refine WP.loopWk (fun m S => ∃ a' b' o, m = a'.length + b'.length ∧ o.length + a'.length + b'.length ≤ 10000 ∧ tidyR (cuts a b) = o ++ meetL a' b' ∧
      S = mkS 71 [(0, .d (slS a')), (1, .d (slS b')), (4, .row 500), (5, .d (.v (.int .i64 0)))] [(500, .row 37 2 o.length ((spC o).map .d))]) ((tidyR a).length + (tidyR b).length)
    (S0 := mkS 71 [(0, .d (slS (tidyR a))), (1, .d (slS (tidyR b))), (4, .row 500), (5, .d (.v (.int .i64 0)))] [(500, .row 37 2 0 [])])
    ((Wk.nilSlot 4 500 37 2 (by simp) (by simp)).trans (Wk.lessE [] (by simp [hb]) (by simp))) ⟨tidyR a, tidyR b, [], rfl, by simp; omega, by rw [← hm]; rfl, rfl⟩ ?_
  rintro _ _ ⟨a', b', o, rfl, hn, ho, rfl⟩
  simp -dsimp
  repeat (first | refine WP.seq ?_ | refine WP.block ?_ | (refine WP.region Try.tab ?_; simp -dsimp) | (refine WP.draw Try.tab Try.mixed ?_; simp -dsimp) | refine And.intro (by first | rfl | omega | decide | (simp; done) | (simp; omega) | (intro _ h; exact fcs_side h; done) | (intros; simp_all; done)) ?_)
  cases a' with
  | nil =>
    rw [meetL_nil1] at ho
    refine WP.cond (b := false) (by simp) (fun h => by cases h) (fun _ => ?_)
    refine WP.exit ?_
    simp -dsimp
    repeat (first | refine WP.seq ?_ | refine WP.block ?_ | (refine WP.region Try.tab ?_; simp -dsimp) | (refine WP.draw Try.tab Try.mixed ?_; simp -dsimp) | refine And.intro (by first | rfl | omega | decide | (simp; done) | (simp; omega) | (intro _ h; exact fcs_side h; done) | (intros; simp_all; done)) ?_)
    rw [List.append_nil] at ho
    refine vcStop.call Try.body35 (limited_row o) (rl [(1000, 500)]) rfl rfl (by simp [BoxLeq]) (CallOk.of (by simp [BoxLeq]) rfl (by first | rfl | (simp [BoxLeq]; done)) (by simp [BoxLeq]) (by simp [BoxLeq])) (fun _ h => h.elim) (fun ⟨_, h⟩ => h.elim) (fun ⟨_, h⟩ => h.elim) (by simp [BoxLeq]) ?_
    simp -dsimp
    repeat (first | refine WP.seq ?_ | refine WP.block ?_ | (refine WP.region Try.tab ?_; simp -dsimp) | (refine WP.draw Try.tab Try.mixed ?_; simp -dsimp) | refine And.intro (by first | rfl | omega | decide | (simp; done) | (simp; omega) | (intro _ h; exact fcs_side h; done) | (intros; simp_all; done)) ?_)
    refine WP.ret (finQ.retE ?_)
    simp -dsimp [meetR, bothR, hb, ho]
  | cons x a' =>
  cases b' with
  | nil =>
    rw [meetL_nil2] at ho
    simp -dsimp
    repeat (first | refine WP.seq ?_ | refine WP.block ?_ | (refine WP.region Try.tab ?_; simp -dsimp) | (refine WP.draw Try.tab Try.mixed ?_; simp -dsimp) | refine And.intro (by first | rfl | omega | decide | (simp; done) | (simp; omega) | (intro _ h; exact fcs_side h; done) | (intros; simp_all; done)) ?_)
    refine WP.cond (b := false) (by simp) (fun h => by cases h) (fun _ => ?_)
    refine WP.exit ?_
    simp -dsimp
    repeat (first | refine WP.seq ?_ | refine WP.block ?_ | (refine WP.region Try.tab ?_; simp -dsimp) | (refine WP.draw Try.tab Try.mixed ?_; simp -dsimp) | refine And.intro (by first | rfl | omega | decide | (simp; done) | (simp; omega) | (intro _ h; exact fcs_side h; done) | (intros; simp_all; done)) ?_)
    rw [List.append_nil] at ho
    refine vcStop.call Try.body35 (limited_row o) (rl [(1000, 500)]) rfl rfl (by simp [BoxLeq]) (CallOk.of (by simp [BoxLeq]) rfl (by first | rfl | (simp [BoxLeq]; done)) (by simp [BoxLeq]) (by simp [BoxLeq])) (fun _ h => h.elim) (fun ⟨_, h⟩ => h.elim) (fun ⟨_, h⟩ => h.elim) (by simp [BoxLeq]) ?_
    simp -dsimp
    repeat (first | refine WP.seq ?_ | refine WP.block ?_ | (refine WP.region Try.tab ?_; simp -dsimp) | (refine WP.draw Try.tab Try.mixed ?_; simp -dsimp) | refine And.intro (by first | rfl | omega | decide | (simp; done) | (simp; omega) | (intro _ h; exact fcs_side h; done) | (intros; simp_all; done)) ?_)
    refine WP.ret (finQ.retE ?_)
    simp -dsimp [meetR, bothR, hb, ho]
  | cons y b' =>
    simp -dsimp
    repeat (first | refine WP.seq ?_ | refine WP.block ?_ | (refine WP.region Try.tab ?_; simp -dsimp) | (refine WP.draw Try.tab Try.mixed ?_; simp -dsimp) | refine And.intro (by first | rfl | omega | decide | (simp; done) | (simp; omega) | (intro _ h; exact fcs_side h; done) | (intros; simp_all; done)) ?_)
    refine WP.cond (b := true) (by simp) (fun _ => ?_) (fun h => by cases h)
    refine WP.skip ?_
    simp -dsimp
    repeat (first | refine WP.seq ?_ | refine WP.block ?_ | (refine WP.region Try.tab ?_; simp -dsimp) | (refine WP.draw Try.tab Try.mixed ?_; simp -dsimp) | refine And.intro (by first | rfl | omega | decide | (simp; done) | (simp; omega) | (intro _ h; exact fcs_side h; done) | (intros; simp_all; done)) ?_)
    rw [meetL_cons] at ho
    refine WP.cond (b := decide (max x.1 y.1 ≤ min x.2 y.2)) (by simp) (fun hc => ?_) (fun hc => ?_)
    · have hc := of_decide_eq_true hc
      rw [show cut x y = [(max x.1 y.1, min x.2 y.2)] by rw [cut, if_pos hc]] at ho
      repeat (first | refine WP.seq ?_ | refine WP.block ?_ | (refine WP.region Try.tab ?_; simp -dsimp) | (refine WP.draw Try.tab Try.mixed ?_; simp -dsimp) | refine And.intro (by first | rfl | omega | decide | (simp; done) | (simp; omega) | (intro _ h; exact fcs_side h; done) | (intros; simp_all; done)) ?_)
      refine WP.cond (b := decide (x.2 < y.2)) (by simp) (fun hq => ?_) (fun hq => ?_)
      · have hq := of_decide_eq_true hq
        rw [if_pos hq] at ho
        repeat (first | refine WP.seq ?_ | refine WP.block ?_ | (refine WP.region Try.tab ?_; simp -dsimp) | (refine WP.draw Try.tab Try.mixed ?_; simp -dsimp) | refine And.intro (by first | rfl | omega | decide | (simp; done) | (simp; omega) | (intro _ h; exact fcs_side h; done) | (intros; simp_all; done)) ?_)
        refine loopW.next (mkS 71 [(0, .d (slS a')), (1, .d (slS (y :: b'))), (4, .row 500), (5, .d (.v (.int .i64 0)))] [(500, .row 37 2 (o ++ [(max x.1 y.1, min x.2 y.2)]).length ((spC (o ++ [(max x.1 y.1, min x.2 y.2)])).map .d))]) (Wk.go [6] 53 500 (by decide) (by simp) (by simp [takeS]) (by simp)) (a'.length + (y :: b').length) (by simp) ⟨a', y :: b', (o ++ [(max x.1 y.1, min x.2 y.2)]), rfl, by simp at hn ⊢; omega, by rw [ho]; simp, rfl⟩
      · have hq := of_decide_eq_false hq
        rw [if_neg hq] at ho
        repeat (first | refine WP.seq ?_ | refine WP.block ?_ | (refine WP.region Try.tab ?_; simp -dsimp) | (refine WP.draw Try.tab Try.mixed ?_; simp -dsimp) | refine And.intro (by first | rfl | omega | decide | (simp; done) | (simp; omega) | (intro _ h; exact fcs_side h; done) | (intros; simp_all; done)) ?_)
        refine loopW.next (mkS 71 [(0, .d (slS (x :: a'))), (1, .d (slS b')), (4, .row 500), (5, .d (.v (.int .i64 0)))] [(500, .row 37 2 (o ++ [(max x.1 y.1, min x.2 y.2)]).length ((spC (o ++ [(max x.1 y.1, min x.2 y.2)])).map .d))]) (Wk.go [6] 53 500 (by decide) (by simp) (by simp [takeS]) (by simp)) ((x :: a').length + b'.length) (by simp) ⟨x :: a', b', (o ++ [(max x.1 y.1, min x.2 y.2)]), rfl, by simp at hn ⊢; omega, by rw [ho]; simp, rfl⟩
    · have hc := of_decide_eq_false hc
      rw [show cut x y = [] by rw [cut, if_neg hc]] at ho
      refine WP.skip ?_
      simp -dsimp
      repeat (first | refine WP.seq ?_ | refine WP.block ?_ | (refine WP.region Try.tab ?_; simp -dsimp) | (refine WP.draw Try.tab Try.mixed ?_; simp -dsimp) | refine And.intro (by first | rfl | omega | decide | (simp; done) | (simp; omega) | (intro _ h; exact fcs_side h; done) | (intros; simp_all; done)) ?_)
      refine WP.cond (b := decide (x.2 < y.2)) (by simp) (fun hq => ?_) (fun hq => ?_)
      · have hq := of_decide_eq_true hq
        rw [if_pos hq] at ho
        repeat (first | refine WP.seq ?_ | refine WP.block ?_ | (refine WP.region Try.tab ?_; simp -dsimp) | (refine WP.draw Try.tab Try.mixed ?_; simp -dsimp) | refine And.intro (by first | rfl | omega | decide | (simp; done) | (simp; omega) | (intro _ h; exact fcs_side h; done) | (intros; simp_all; done)) ?_)
        refine loopW.next (mkS 71 [(0, .d (slS a')), (1, .d (slS (y :: b'))), (4, .row 500), (5, .d (.v (.int .i64 0)))] [(500, .row 37 2 o.length ((spC o).map .d))]) (Wk.lessE [6] (by simp [takeS]) (by simp)) (a'.length + (y :: b').length) (by simp) ⟨a', y :: b', o, rfl, by simp at hn ⊢; omega, by rw [ho]; simp, rfl⟩
      · have hq := of_decide_eq_false hq
        rw [if_neg hq] at ho
        repeat (first | refine WP.seq ?_ | refine WP.block ?_ | (refine WP.region Try.tab ?_; simp -dsimp) | (refine WP.draw Try.tab Try.mixed ?_; simp -dsimp) | refine And.intro (by first | rfl | omega | decide | (simp; done) | (simp; omega) | (intro _ h; exact fcs_side h; done) | (intros; simp_all; done)) ?_)
        refine loopW.next (mkS 71 [(0, .d (slS (x :: a'))), (1, .d (slS b')), (4, .row 500), (5, .d (.v (.int .i64 0)))] [(500, .row 37 2 o.length ((spC o).map .d))]) (Wk.lessE [6] (by simp [takeS]) (by simp)) ((x :: a').length + b'.length) (by simp) ⟨x :: a', b', o, rfl, by simp at hn ⊢; omega, by rw [ho]; simp, rfl⟩
end Go.Proofs.Ytphbappgmoojeaa
