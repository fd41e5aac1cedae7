/-
  Spans: neighbours joined; a tidy list.
-/
import Derived.Test.YtphbappgmoojeaaKHe
set_option linter.unusedSectionVars false
set_option linter.unusedSimpArgs false
set_option linter.unusedVariables false
namespace Go.Proofs.Ytphbappgmoojeaa
open Go.Xe Go.RowKit Go.Sort

theorem okS_up {c x : Sp} (h1 : okS c = true) (h2 : okS x = true) : okS (c.1, max c.2 x.2) = true := by
  simp only [okS, Bool.and_eq_true, decide_eq_true_eq] at *
  omega
theorem setL_end : ∀ (a b xs : List AV), b.length = xs.length → setL (a ++ b) a.length xs = a ++ xs
  | a, [], [], _ => rfl
  | a, y :: b, x :: xs, h => by
    rw [setL]
    have : (a ++ y :: b).set a.length x = (a ++ [x]) ++ b := by simp
    rw [this]
    have := setL_end (a ++ [x]) b xs (by simpa using h)
    rw [List.length_append] at this
    simpa using this
theorem snocC {α : Type} (o : List α) : o = [] ∨ ∃ o' c, o = o' ++ [c] := by
  rcases List.eq_nil_or_concat o with h | ⟨o', c, h⟩
  · exact .inl h
  · exact .inr ⟨o', c, by rw [h, List.concat_eq_append]⟩
/-- What the list becomes, if 'o' has been joined so far. -/
def contJ : List Sp → List Sp → List Sp
  | [], l => joinL l
  | [c], l => joinC c l
  | s :: c :: o, l => s :: contJ (c :: o) l
theorem contJ_snoc : ∀ (o : List Sp) (c : Sp) (l : List Sp), contJ (o ++ [c]) l = o ++ joinC c l
  | [], _, _ => rfl
  | [s], _, _ => rfl
  | s :: c :: o, d, l => by
    have := contJ_snoc (c :: o) d l
    simp only [List.cons_append] at this ⊢
    rw [contJ, this]
set_option maxRecDepth 10000 in
set_option maxHeartbeats 4000000 in
theorem join_ok (l : List Sp) (hl : l.length ≤ 1000000) (hok : ∀ s ∈ l, okS s = true) : Fn0 Try.prog 51 [slS l, .v (.func (.func 50) #[] #[]), .v (.func (.func 52) #[] #[])] (slS (joinL l)) := by
  refine Fun.of_wp (pn := noPn) Try.tab Try.func51 rfl fun β0 => ?_
  simp only [Try.f51]
  repeat (first | refine WP.seq ?_ | refine WP.block ?_ | (refine WP.region Try.tab ?_; simp -dsimp) | (refine WP.draw Try.tab Try.mixed ?_; simp -dsimp) | refine And.intro (by first | rfl | omega | decide | (simp; done) | (simp; omega) | (intro _ h; exact fcs_side h; done) | (intros; simp_all; done)) ?_)
  refine WP.loopWk (fun m S => ∃ l1 l2 o, l = l1 ++ l2 ∧ m = l2.length ∧ o.length ≤ l1.length ∧ (∀ s ∈ o, okS s = true) ∧ joinL l = contJ o l2 ∧
      S = mkS 46 [(1, .d (.v (.func (.func 50) #[] #[]))), (2, .d (.v (.func (.func 52) #[] #[]))), (6, .row 500), (10, .d (slS l)), (11, .d (.v (.int .i64 l.length))), (12, .d (.v (.int .i64 l1.length)))] [(500, .row 37 2 o.length ((spC o).map .d))]) l.length
    (S0 := mkS 46 [(1, .d (.v (.func (.func 50) #[] #[]))), (2, .d (.v (.func (.func 52) #[] #[]))), (6, .row 500), (10, .d (slS l)), (11, .d (.v (.int .i64 l.length))), (12, .d (.v (.int .i64 0)))] [(500, .row 37 2 0 [])])
    ((Wk.nilSlot 6 500 37 2 (by simp) (by simp)).trans (Wk.lessE [] (by simp) (by simp))) ⟨[], l, [], rfl, rfl, Nat.le_refl _, by simp, rfl, rfl⟩ ?_
  rintro _ _ ⟨l1, l2, o, hl12, rfl, hol, hoo, hj, rfl⟩
  simp -dsimp
  repeat (first | refine WP.seq ?_ | refine WP.block ?_ | (refine WP.region Try.tab ?_; simp -dsimp) | (refine WP.draw Try.tab Try.mixed ?_; simp -dsimp) | refine And.intro (by first | rfl | omega | decide | (simp; done) | (simp; omega) | (intro _ h; exact fcs_side h; done) | (intros; simp_all; done)) ?_)
  cases l2 with
  | nil =>
    simp only [List.append_nil] at hl12
    subst hl12
    have hjo : contJ o [] = o := by
      rcases snocC o with rfl | ⟨o', c, rfl⟩
      · rfl
      · rw [contJ_snoc]; rfl
    refine WP.cond (b := false) (by simp) (fun h => by cases h) (fun _ => ?_)
    refine WP.exit ?_
    simp -dsimp
    repeat (first | refine WP.seq ?_ | refine WP.block ?_ | (refine WP.region Try.tab ?_; simp -dsimp) | (refine WP.draw Try.tab Try.mixed ?_; simp -dsimp) | refine And.intro (by first | rfl | omega | decide | (simp; done) | (simp; omega) | (intro _ h; exact fcs_side h; done) | (intros; simp_all; done)) ?_)
    rw [hj, hjo]
    refine WP.ret (finQ.retWE (Wk.freeze (k := 500) (T := 37) (sz := 2) (n := o.length) (ds := spC o) (by simp)) ?_)
    simp -dsimp
  | cons x l2 =>
    have hll : l.length = l1.length + (l2.length + 1) := by rw [hl12]; simp
    have hx : okS x = true := hok x (by rw [hl12]; simp)
    have e1 : IntKind.i64.wrap ((l1.length : Int) + 1) = (l1.length : Int) + 1 := IntWalk.i64_in _ (by omega)
    have h1 := spC_at l1 x l2
    rw [← hl12] at h1
    refine WP.cond (b := true) (by simp; omega) (fun _ => ?_) (fun h => by cases h)
    refine WP.skip ?_
    simp -dsimp
    refine WP.seq (WP.block ?_)
    rcases snocC o with rfl | ⟨o', c, rfl⟩
    · have e2 : IntKind.i64.wrap (-1) = -1 := by decide
      repeat (first | refine WP.seq ?_ | refine WP.block ?_ | (refine WP.region Try.tab ?_; simp -dsimp [h1, e2]) | (refine WP.draw Try.tab Try.mixed ?_; simp -dsimp [h1, e2]) | refine And.intro (by first | rfl | omega | decide | (simp; done) | (simp; omega) | (intro _ h; exact fcs_side h; done) | (intros; simp_all; done)) ?_)
      refine vcStopG.skip (.d (.v (.bool false))) ?_
      simp -dsimp
      repeat (first | refine WP.seq ?_ | refine WP.block ?_ | (refine WP.region Try.tab ?_; simp -dsimp) | (refine WP.draw Try.tab Try.mixed ?_; simp -dsimp) | refine And.intro (by first | rfl | omega | decide | (simp; done) | (simp; omega) | (intro _ h; exact fcs_side h; done) | (intros; simp_all; done)) ?_)
      refine WP.cond (b := false) (by simp) (fun h => by cases h) (fun _ => ?_)
      repeat (first | refine WP.seq ?_ | refine WP.block ?_ | (refine WP.region Try.tab ?_; simp -dsimp) | (refine WP.draw Try.tab Try.mixed ?_; simp -dsimp) | refine And.intro (by first | rfl | omega | decide | (simp; done) | (simp; omega) | (intro _ h; exact fcs_side h; done) | (intros; simp_all; done)) ?_)
      refine loopW.next (mkS 46 [(1, .d (.v (.func (.func 50) #[] #[]))), (2, .d (.v (.func (.func 52) #[] #[]))), (6, .row 500), (10, .d (slS l)), (11, .d (.v (.int .i64 l.length))), (12, .d (.v (.int .i64 (l1 ++ [x]).length)))] [(500, .row 37 2 1 ((spC [x]).map .d))])
        (Wk.go [8, 42] 43 500 (by decide) (by simp) (by simp [e1]) (by simp)) l2.length (by simp) ⟨l1 ++ [x], l2, [x], by simp [hl12], rfl, by simp, by simp [hx], by rw [hj]; rfl, rfl⟩
    · have e3 : IntKind.i64.wrap (o'.length : Int) = (o'.length : Int) := IntWalk.i64_in _ (by simp at hol; omega)
      have hc : okS c = true := hoo c (by simp)
      have hd : ∀ r : List AV, ((spC o').map AV.d ++ r).drop (o'.length * 2) = r := fun r => by
        rw [← spC_length o', ← List.length_map (f := AV.d), List.drop_left]
      have hset : ∀ a b y z : AV, setL ((spC o').map AV.d ++ [a, b]) (o'.length * 2) [y, z] = (spC o').map AV.d ++ [y, z] := fun a b y z => by
        rw [← spC_length o', ← List.length_map (f := AV.d)]
        exact setL_end _ _ _ rfl
      repeat (first | refine WP.seq ?_ | refine WP.block ?_ | (refine WP.region Try.tab ?_; simp -dsimp [h1, e3, hd]) | (refine WP.draw Try.tab Try.mixed ?_; simp -dsimp [h1, e3, hd]) | refine And.intro (by first | rfl | omega | decide | (simp; done) | (simp; omega) | (intro _ h; exact fcs_side h; done) | (intros; simp_all; done)) ?_)
      refine vcStopG.call0 Try.body50 (fun _ => touch_ok c x hc hx) rfl (fun _ => rfl) (fun _ => by simp [hd]) ?_
      simp -dsimp
      repeat (first | refine WP.seq ?_ | refine WP.block ?_ | (refine WP.region Try.tab ?_; simp -dsimp [hd]) | (refine WP.draw Try.tab Try.mixed ?_; simp -dsimp [hd]) | refine And.intro (by first | rfl | omega | decide | (simp; done) | (simp; omega) | (intro _ h; exact fcs_side h; done) | (intros; simp_all; done)) ?_)
      have hjc : joinC c (x :: l2) = if touchB c x = true then joinC (c.1, max c.2 x.2) l2 else c :: joinC x l2 := by
        rw [joinC]
        simp only [touchB, Bool.or_eq_true, decide_eq_true_eq]
      have hco : ∀ s ∈ o', okS s = true := fun s h => hoo s (by simp [h])
      have hlo : o'.length + 1 ≤ l1.length := by simpa using hol
      refine WP.cond (b := touchB c x) (by simp) (fun hb => ?_) (fun hb => ?_)
      · repeat (first | refine WP.seq ?_ | refine WP.block ?_ | (refine WP.region Try.tab ?_; simp -dsimp [hd]) | (refine WP.draw Try.tab Try.mixed ?_; simp -dsimp [hd]) | refine And.intro (by first | rfl | omega | decide | (simp; done) | (simp; omega) | (intro _ h; exact fcs_side h; done) | (intros; simp_all; done)) ?_)
        refine vcStop.call0 Try.body52 (both_ok c x) rfl rfl (by simp [hd]) ?_
        simp -dsimp
        repeat (first | refine WP.seq ?_ | refine WP.block ?_ | (refine WP.region Try.tab ?_; simp -dsimp [hd, hset]) | (refine WP.draw Try.tab Try.mixed ?_; simp -dsimp [hd, hset]) | refine And.intro (by first | rfl | omega | decide | (simp; done) | (simp; omega) | (intro _ h; exact fcs_side h; done) | (intros; simp_all; done)) ?_)
        refine loopW.next (mkS 46 [(1, .d (.v (.func (.func 50) #[] #[]))), (2, .d (.v (.func (.func 52) #[] #[]))), (6, .row 500), (10, .d (slS l)), (11, .d (.v (.int .i64 l.length))), (12, .d (.v (.int .i64 (l1 ++ [x]).length)))] [(500, .row 37 2 (o' ++ [(c.1, max c.2 x.2)]).length ((spC (o' ++ [(c.1, max c.2 x.2)])).map .d))])
          (Wk.lessE [8] (by simp [e1]) (by simp [hset])) l2.length (by simp) ⟨l1 ++ [x], l2, o' ++ [(c.1, max c.2 x.2)], by simp [hl12], rfl, by simp; omega, ?_, by rw [hj, contJ_snoc, contJ_snoc, hjc, if_pos hb], rfl⟩
        intro s hs
        rcases List.mem_append.1 hs with h | h
        · exact hco s h
        · rw [List.mem_singleton] at h; rw [h]; exact okS_up hc hx
      · repeat (first | refine WP.seq ?_ | refine WP.block ?_ | (refine WP.region Try.tab ?_; simp -dsimp) | (refine WP.draw Try.tab Try.mixed ?_; simp -dsimp) | refine And.intro (by first | rfl | omega | decide | (simp; done) | (simp; omega) | (intro _ h; exact fcs_side h; done) | (intros; simp_all; done)) ?_)
        refine loopW.next (mkS 46 [(1, .d (.v (.func (.func 50) #[] #[]))), (2, .d (.v (.func (.func 52) #[] #[]))), (6, .row 500), (10, .d (slS l)), (11, .d (.v (.int .i64 l.length))), (12, .d (.v (.int .i64 (l1 ++ [x]).length)))] [(500, .row 37 2 (o' ++ [c] ++ [x]).length ((spC (o' ++ [c] ++ [x])).map .d))])
          (Wk.go [8, 42] 43 500 (by decide) (by simp) (by simp [e1]) (by simp)) l2.length (by simp) ⟨l1 ++ [x], l2, o' ++ [c] ++ [x], by simp [hl12], rfl, by simp; omega, ?_, ?_, rfl⟩
        · intro s hs
          rcases List.mem_append.1 hs with h | h
          · exact hoo s h
          · rw [List.mem_singleton] at h; rw [h]; exact hx
        · rw [hj, contJ_snoc, contJ_snoc, hjc, if_neg (by rw [hb]; exact Bool.false_ne_true)]; simp
theorem join_row (l : List Sp) (hl : l.length ≤ 1000000) (hok : ∀ s ∈ l, okS s = true) : Fun Try.prog 51 [.row 1000, .d (.v (.func (.func 50) #[] #[])), .d (.v (.func (.func 52) #[] #[]))] [(1000, .row 37 2 l.length ((spC l).map .d))] (.d (slS (joinL l))) [] fun _ => False :=
  Fun.ofRow 1000 (T := 37) (cs := spC l) (join_ok l hl hok) rfl rfl trivial
theorem tidy_ok (l : List Sp) (hl : l.length ≤ 1000000) (hok : ∀ s ∈ l, okS s = true) : Fn0 Try.prog 33 [slS l] (slS (tidyR l)) := by
  have hp := srtS_perm l
  have he : joinL (srtS l) = tidyR l := tidy_same (srtS_sorted l) hp fun s hs => (okS_isS (hok s hs)).2.2.1
  have hj := join_row (srtS l) (by rw [srtS_len]; exact hl) fun s hs => hok s (hp.mem_iff.1 hs)
  rw [srtS_len, he] at hj
  refine Fun.of_wp (pn := noPn) Try.tab Try.func33 rfl fun β0 => ?_
  simp only [Try.f33]
  repeat (first | refine WP.seq ?_ | refine WP.block ?_ | (refine WP.region Try.tab ?_; simp -dsimp) | (refine WP.draw Try.tab Try.mixed ?_; simp -dsimp) | refine And.intro (by first | rfl | omega | decide | (simp; done) | (simp; omega) | (intro _ h; exact fcs_side h; done) | (intros; simp_all; done)) ?_)
  refine vcStop.call Try.body46 (values_ok l) (rl [(0, 600)]) rfl rfl (by simp [BoxLeq]) (CallOk.of (by simp [BoxLeq]) rfl (by first | rfl | (simp [BoxLeq]; done)) (by simp [BoxLeq]) (by simp [BoxLeq])) (fun _ h => h.elim) (fun ⟨_, h⟩ => h.elim) (fun ⟨_, h⟩ => h.elim) (by simp [BoxLeq]) ?_
  simp -dsimp
  repeat refine And.intro (by first | rfl | omega | decide | (simp; done) | (simp; omega) | (intro _ h; exact fcs_side h; done) | (intros; simp_all; done)) ?_
  refine vcStop.call Try.body45 (sorted_ok l hl) (rl [(1000, 600), (0, 601)]) rfl rfl (by simp [BoxLeq]) (CallOk.of (by simp [BoxLeq]) rfl (by first | rfl | (simp [BoxLeq]; done)) (by simp [BoxLeq]) (by simp [BoxLeq])) (fun _ h => h.elim) (fun ⟨_, h⟩ => h.elim) (fun ⟨_, h⟩ => h.elim) (by simp [BoxLeq]) ?_
  simp -dsimp
  repeat (first | refine WP.seq ?_ | refine WP.block ?_ | (refine WP.region Try.tab ?_; simp -dsimp) | (refine WP.draw Try.tab Try.mixed ?_; simp -dsimp) | refine And.intro (by first | rfl | omega | decide | (simp; done) | (simp; omega) | (intro _ h; exact fcs_side h; done) | (intros; simp_all; done)) ?_)
  refine vcStop.call Try.body51 (hj) (rl [(1000, 601)]) rfl rfl (by simp [BoxLeq]) (CallOk.of (by simp [BoxLeq]) rfl (by first | rfl | (simp [BoxLeq]; done)) (by simp [BoxLeq]) (by simp [BoxLeq])) (fun _ h => h.elim) (fun ⟨_, h⟩ => h.elim) (fun ⟨_, h⟩ => h.elim) (by simp [BoxLeq]) ?_
  simp -dsimp
  repeat (first | refine WP.seq ?_ | refine WP.block ?_ | (refine WP.region Try.tab ?_; simp -dsimp) | (refine WP.draw Try.tab Try.mixed ?_; simp -dsimp) | refine And.intro (by first | rfl | omega | decide | (simp; done) | (simp; omega) | (intro _ h; exact fcs_side h; done) | (intros; simp_all; done)) ?_)
  refine WP.ret (finQ.retE ?_)
  simp -dsimp
theorem tidyR_okS {l : List Sp} (h : ∀ s ∈ l, okS s = true) : ∀ s ∈ tidyR l, okS s = true := by
  intro s hs
  obtain ⟨⟨u, hu, e1⟩, ⟨v, hv, e2⟩⟩ := tidyR_ends (srtS_sorted l) (srtS_perm l) (fun s hs => (okS_isS (h s hs)).2.2.1) s hs
  have h1 := okS_isS (h u hu)
  have h2 := okS_isS (h v hv)
  have h3 := (tidyR_ok (l := l) fun s hs => (okS_isS (h s hs)).2.2.1).1.all s hs
  simp only [okS, Bool.and_eq_true, decide_eq_true_eq]
  omega
end Go.Proofs.Ytphbappgmoojeaa
