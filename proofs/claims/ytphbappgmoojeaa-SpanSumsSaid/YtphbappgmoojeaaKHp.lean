/-
  Spans: Add.
-/
import Derived.Test.YtphbappgmoojeaaKHo
set_option linter.unusedSectionVars false
set_option linter.unusedSimpArgs false
set_option linter.unusedVariables false
namespace Go.Proofs.Ytphbappgmoojeaa
open Go.Xe Go.RowKit

def addC (x y : List Sp) : List Sp × Int := if 65536 < x.length * y.length then ([], 2) else if (sumsL x y).all okS = true then limL (tidyR (sumsL x y)) else ([], 10)
def addR (a b : List Sp) : List Sp × Int := bothR a b (addC (tidyR a) (tidyR b))
theorem first_bad : ∀ {l : List Sp}, l.all okS = false → ∃ p s q, l = p ++ s :: q ∧ p.all okS = true ∧ okS s = false
  | [], h => by simp at h
  | x :: l, h => by
    rw [List.all_cons] at h
    cases hx : okS x with
    | false => exact ⟨[], x, l, rfl, rfl, hx⟩
    | true =>
      rw [hx, Bool.true_and] at h
      obtain ⟨p, s, q, rfl, hp, hs⟩ := first_bad h
      exact ⟨x :: p, s, q, rfl, by rw [List.all_cons, hx, hp]; rfl, hs⟩
def bsB (S : List Sp) : Nat → Bxs
  | 0 => [(1100, .cells 22 [.d (.v (.slice none 0 0))]), (1101, .cells 25 [.d (.v (.int .i64 0))])]
  | i + 1 => [(1100, .cells 22 [.row 505]), (1101, .cells 25 [.d (.v (.int .i64 0))]), (505, .row 37 2 (i + 1) ((spC (S.take (i + 1))).map .d))]
@[simp] theorem bsB_zero (S : List Sp) : bsB S 0 = [(1100, .cells 22 [.d (.v (.slice none 0 0))]), (1101, .cells 25 [.d (.v (.int .i64 0))])] := rfl
@[simp] theorem bsB_succ (S : List Sp) (i : Nat) : bsB S (i + 1) = [(1100, .cells 22 [.row 505]), (1101, .cells 25 [.d (.v (.int .i64 0))]), (505, .row 37 2 (i + 1) ((spC (S.take (i + 1))).map .d))] := rfl
def bsF : Bxs := [(1100, .cells 22 [.d (.v (.slice none 0 0))]), (1101, .cells 25 [.d (.v (.int .i64 10))])]
theorem bsB_singles (l : List Sp) (i : Nat) : singles (bsB l i) := by
  intro k b h
  cases i <;> simp only [bsB_zero, bsB_succ, getB] at h <;> (repeat' split at h) <;> cases h <;> rfl
theorem bsF_singles : singles bsF := by
  intro k b h
  simp only [bsF, getB] at h
  (repeat' split at h) <;> cases h <;> rfl
theorem tidy_row (l : List Sp) (hl : l.length ≤ 1000000) (hok : ∀ s ∈ l, okS s = true) : Fun Try.prog 33 [.row 1000] [(1000, .row 37 2 l.length ((spC l).map .d))] (.d (slS (tidyR l))) [] fun _ => False :=
  Fun.ofRow 1000 (T := 37) (cs := spC l) (tidy_ok l hl hok) rfl rfl trivial
set_option maxRecDepth 10000 in
set_option maxHeartbeats 4000000 in
theorem add_ok (a b : List Sp) : Fn0 Try.prog 13 [slS a, slS b] (resD (addR a b)) := by
  refine Fun.of_wpR Try.tab Try.func13 rfl fun β0 => ?_
  simp only [Try.f13]
  repeat (first | refine WP.seq ?_ | refine WP.block ?_ | (refine WP.region Try.tab ?_; simp -dsimp) | (refine WP.draw Try.tab Try.mixed ?_; simp -dsimp) | refine And.intro (by first | rfl | omega | decide | (simp; done) | (simp; omega) | (intro _ h; exact fcs_side h; done) | (intros; simp_all; done)) ?_)
  refine vcStop.call Try.body32 (check2_ok a b) (rl [(1000, 9)]) rfl rfl (by simp [BoxLeq]) (CallOk.of (by simp [BoxLeq]) rfl (by first | rfl | (simp [BoxLeq]; done)) (by simp [BoxLeq]) (by simp [BoxLeq])) (fun _ h => h.elim) (fun ⟨_, h⟩ => h.elim) (fun ⟨_, h⟩ => h.elim) (by simp [BoxLeq]) ?_
  simp -dsimp
  repeat (first | refine WP.seq ?_ | refine WP.block ?_ | (refine WP.region Try.tab ?_; simp -dsimp) | (refine WP.draw Try.tab Try.mixed ?_; simp -dsimp) | refine And.intro (by first | rfl | omega | decide | (simp; done) | (simp; omega) | (intro _ h; exact fcs_side h; done) | (intros; simp_all; done)) ?_)
  refine WP.cond (b := !decide (chkLs [a, b] = 0)) (by simp) (fun hb => ?_) (fun hb => ?_)
  · have hb : ¬ chkLs [a, b] = 0 := by simpa using hb
    repeat (first | refine WP.seq ?_ | refine WP.block ?_ | (refine WP.region Try.tab ?_; simp -dsimp) | (refine WP.draw Try.tab Try.mixed ?_; simp -dsimp) | refine And.intro (by first | rfl | omega | decide | (simp; done) | (simp; omega) | (intro _ h; exact fcs_side h; done) | (intros; simp_all; done)) ?_)
    refine WP.ret (finQR.retE rfl ?_)
    simp -dsimp [addR, bothR, hb]
  have hb : chkLs [a, b] = 0 := by simpa using hb
  obtain ⟨⟨a1, a2⟩, b1, b2⟩ := chk2_zero hb
  refine WP.skip ?_
  simp -dsimp
  repeat (first | refine WP.seq ?_ | refine WP.block ?_ | (refine WP.region Try.tab ?_; simp -dsimp) | (refine WP.draw Try.tab Try.mixed ?_; simp -dsimp) | refine And.intro (by first | rfl | omega | decide | (simp; done) | (simp; omega) | (intro _ h; exact fcs_side h; done) | (intros; simp_all; done)) ?_)
  refine vcStop.call0 Try.body33 (tidy_ok a (by omega) a2) rfl rfl (by simp) ?_
  simp -dsimp
  repeat refine And.intro (by first | rfl | omega | decide | (simp; done) | (simp; omega) | (intro _ h; exact fcs_side h; done) | (intros; simp_all; done)) ?_
  refine vcStop.call0 Try.body33 (tidy_ok b (by omega) b2) rfl rfl (by simp) ?_
  simp -dsimp
  repeat (first | refine WP.seq ?_ | refine WP.block ?_ | (refine WP.region Try.tab ?_; simp -dsimp) | (refine WP.draw Try.tab Try.mixed ?_; simp -dsimp) | refine And.intro (by first | rfl | omega | decide | (simp; done) | (simp; omega) | (intro _ h; exact fcs_side h; done) | (intros; simp_all; done)) ?_)
  have hta := tidyR_len a
  have htb := tidyR_len b
  have hx := tidyR_okS a2
  have hy := tidyR_okS b2
  generalize hxe : tidyR a = x at hta hx
  generalize hye : tidyR b = y at htb hy
  have hxy : x.length * y.length ≤ 4096 * 4096 := Nat.mul_le_mul (by omega) (by omega)
  have em : IntKind.i64.wrap ((x.length : Int) * y.length) = (x.length : Int) * y.length := by
    rw [← Int.natCast_mul]; exact IntWalk.i64_in _ (by omega)
  have ec : decide (65536 < (x.length : Int) * y.length) = decide (65536 < x.length * y.length) := by
    rw [← Int.natCast_mul, Bool.eq_iff_iff, decide_eq_true_eq, decide_eq_true_eq]; omega
  have hR : addR a b = addC x y := by rw [addR, bothR, if_pos hb, hxe, hye]
  refine WP.cond (b := decide (65536 < x.length * y.length)) (by simp [em, ec]) (fun hn => ?_) (fun hn => ?_)
  · have hn := of_decide_eq_true hn
    repeat (first | refine WP.seq ?_ | refine WP.block ?_ | (refine WP.region Try.tab ?_; simp -dsimp) | (refine WP.draw Try.tab Try.mixed ?_; simp -dsimp) | refine And.intro (by first | rfl | omega | decide | (simp; done) | (simp; omega) | (intro _ h; exact fcs_side h; done) | (intros; simp_all; done)) ?_)
    refine WP.ret (finQR.retE rfl ?_)
    simp -dsimp [hR, addC, hn]
  have hn := of_decide_eq_false hn
  have hSl : (sumsL x y).length ≤ 65536 := by rw [sumsL_len]; omega
  refine WP.skip ?_
  simp -dsimp
  repeat (first | refine WP.seq ?_ | refine WP.block ?_ | (refine WP.region Try.tab ?_; simp -dsimp) | (refine WP.draw Try.tab Try.mixed ?_; simp -dsimp) | refine And.intro (by first | rfl | omega | decide | (simp; done) | (simp; omega) | (intro _ h; exact fcs_side h; done) | (intros; simp_all; done)) ?_)
  refine vcStop.call Try.body34 (sums_ok x y) (rl [(0, 600), (1, 602)]) rfl rfl (by simp [BoxLeq]) (CallOk.of (by simp [BoxLeq]) rfl (by first | rfl | (simp [BoxLeq]; done)) (by simp [BoxLeq]) (by simp [BoxLeq])) (fun _ h => h.elim) (fun ⟨_, h⟩ => h.elim) (fun ⟨_, h⟩ => h.elim) (by simp [BoxLeq]) ?_
  simp -dsimp
  repeat (first | refine WP.seq ?_ | refine WP.block ?_ | (refine WP.region Try.tab ?_; simp -dsimp) | (refine WP.draw Try.tab Try.mixed ?_; simp -dsimp) | refine And.intro (by first | rfl | omega | decide | (simp; done) | (simp; omega) | (intro _ h; exact fcs_side h; done) | (intros; simp_all; done)) ?_)
  cases hall : (sumsL x y).all okS
  · obtain ⟨p, s, q, hS, hp, hs⟩ := first_bad hall
    have hR2 : addR a b = ([], 10) := by rw [hR, addC, if_neg hn, hall]; rfl
    have hpl : p.length < (sumsL x y).length := by rw [hS]; simp
    refine WP.rangeFuncE Try.body53 (m := p.length + 1) (jump := fun i => if i = p.length then some .ret else none) (sums_it x y _ (p.length + 1) hx hy (by omega) (fun i hi => by simp; omega) (.inr ⟨by omega, by simp⟩))
      (fun i => if i = p.length + 1 then bsF else bsB (sumsL x y) i) (mkS 42 [(4, .ptr 1100 0), (5, .ptr 1101 0)] []).sl 990 (rl [(1000, 600), (1001, 602), (1100, 4), (1101, 5), (505, 700), (990, 701)]) rfl rfl rfl (by simp) (by simp) (by simp)
      (fun i _ => by split; exact bsF_singles; exact bsB_singles _ i) (by simp [bsF]) (by simp) (by simp [bsF]) (by simp) (by decide) (by simp [bsF]) (fun i hi => if_neg (by omega)) (fun _ _ => rfl) ?_ (fun G => CallOk.of (by simp [hb]) (by simp [bsF]) (by simp [bsF]) (by simp [bsF]) (by simp [bsF])) (fun G => by simp [bsF]) ?_
    · intro i hi lp β1
      have hgd : i ≤ p.length := by omega
      rcases Nat.lt_or_eq_of_le hgd with hlt | heq
      · have hu : (sumsL x y)[i]?.getD (0, 0) = p[i]'hlt := by rw [hS, List.getElem?_append_left hlt, List.getElem?_eq_getElem hlt]; rfl
        have hok : okS (p[i]'hlt) = true := List.all_eq_true.1 hp _ (List.getElem_mem hlt)
        generalize p[i]'hlt = u at hu hok
        have ht : (sumsL x y).take (i + 1) = (sumsL x y).take i ++ [u] := by
          rw [List.take_add_one, List.getElem?_eq_getElem (by omega), ← hu, List.getElem?_eq_getElem (by omega)]; rfl
        have c1 : ¬ i = p.length + 1 := by omega
        have c2 : ¬ i = p.length := by omega
        have c3 : ¬ i + 1 = p.length + 1 := by omega
        rw [if_neg c1, if_neg c2, if_neg c3]
        cases i with
        | zero =>
          simp only [Nat.zero_add] at ht
          simp -dsimp [hu]
          repeat (first | refine WP.seq ?_ | refine WP.block ?_ | (refine WP.region Try.tab ?_; simp -dsimp) | (refine WP.draw Try.tab Try.mixed ?_; simp -dsimp) | refine And.intro (by first | rfl | omega | decide | (simp; done) | (simp; omega) | (intro _ h; exact fcs_side h; done) | (intros; simp_all; done)) ?_)
          refine vcStop.call0 Try.body29 (check_ok u) rfl rfl (by simp [hu]) ?_
          simp -dsimp
          repeat (first | refine WP.seq ?_ | refine WP.block ?_ | (refine WP.region Try.tab ?_; simp -dsimp) | (refine WP.draw Try.tab Try.mixed ?_; simp -dsimp) | refine And.intro (by first | rfl | omega | decide | (simp; done) | (simp; omega) | (intro _ h; exact fcs_side h; done) | (intros; simp_all; done)) ?_)
          refine WP.cond (b := false) (by simp [chkS, hok]) (fun h => by cases h) (fun _ => ?_)
          refine WP.skip ?_
          simp -dsimp
          repeat (first | refine WP.seq ?_ | refine WP.block ?_ | (refine WP.region Try.tab ?_; simp -dsimp) | (refine WP.draw Try.tab Try.mixed ?_; simp -dsimp) | refine And.intro (by first | rfl | omega | decide | (simp; done) | (simp; omega) | (intro _ h; exact fcs_side h; done) | (intros; simp_all; done)) ?_)
          exact ⟨mkS 42 [] (bsB (sumsL x y) 1), Wk.go [6, 35] 36 505 (by decide) (by simp) (by simp) (by simp [ht, hu, chkS, hok]), subB_ok (by simp)⟩
        | succ i =>
          simp -dsimp [hu]
          repeat (first | refine WP.seq ?_ | refine WP.block ?_ | (refine WP.region Try.tab ?_; simp -dsimp) | (refine WP.draw Try.tab Try.mixed ?_; simp -dsimp) | refine And.intro (by first | rfl | omega | decide | (simp; done) | (simp; omega) | (intro _ h; exact fcs_side h; done) | (intros; simp_all; done)) ?_)
          refine vcStop.call0 Try.body29 (check_ok u) rfl rfl (by simp [hu]) ?_
          simp -dsimp
          repeat (first | refine WP.seq ?_ | refine WP.block ?_ | (refine WP.region Try.tab ?_; simp -dsimp) | (refine WP.draw Try.tab Try.mixed ?_; simp -dsimp) | refine And.intro (by first | rfl | omega | decide | (simp; done) | (simp; omega) | (intro _ h; exact fcs_side h; done) | (intros; simp_all; done)) ?_)
          refine WP.cond (b := false) (by simp [chkS, hok]) (fun h => by cases h) (fun _ => ?_)
          refine WP.skip ?_
          simp -dsimp
          repeat (first | refine WP.seq ?_ | refine WP.block ?_ | (refine WP.region Try.tab ?_; simp -dsimp) | (refine WP.draw Try.tab Try.mixed ?_; simp -dsimp) | refine And.intro (by first | rfl | omega | decide | (simp; done) | (simp; omega) | (intro _ h; exact fcs_side h; done) | (intros; simp_all; done)) ?_)
          exact ⟨mkS 42 [] (bsB (sumsL x y) (i + 1 + 1)), Wk.go [6, 35] 36 505 (by decide) (by simp) (by simp) (by simp [ht, hu, chkS, hok]), subB_ok (by simp)⟩
      · have hu : (sumsL x y)[i]?.getD (0, 0) = s := by rw [hS, heq]; simp
        have c1 : ¬ i = p.length + 1 := by omega
        rw [if_neg c1, if_pos heq, if_pos (show i + 1 = p.length + 1 by omega)]
        cases i with
        | zero =>
          simp -dsimp [hu]
          repeat (first | refine WP.seq ?_ | refine WP.block ?_ | (refine WP.region Try.tab ?_; simp -dsimp) | (refine WP.draw Try.tab Try.mixed ?_; simp -dsimp) | refine And.intro (by first | rfl | omega | decide | (simp; done) | (simp; omega) | (intro _ h; exact fcs_side h; done) | (intros; simp_all; done)) ?_)
          refine vcStop.call0 Try.body29 (check_ok s) rfl rfl (by simp [hu]) ?_
          simp -dsimp
          repeat (first | refine WP.seq ?_ | refine WP.block ?_ | (refine WP.region Try.tab ?_; simp -dsimp) | (refine WP.draw Try.tab Try.mixed ?_; simp -dsimp) | refine And.intro (by first | rfl | omega | decide | (simp; done) | (simp; omega) | (intro _ h; exact fcs_side h; done) | (intros; simp_all; done)) ?_)
          refine WP.cond (b := true) (by simp [chkS, hs]) (fun _ => ?_) (fun h => by cases h)
          repeat (first | refine WP.seq ?_ | refine WP.block ?_ | (refine WP.region Try.tab ?_; simp -dsimp) | (refine WP.draw Try.tab Try.mixed ?_; simp -dsimp) | refine And.intro (by first | rfl | omega | decide | (simp; done) | (simp; omega) | (intro _ h; exact fcs_side h; done) | (intros; simp_all; done)) ?_)
          refine WP.ret ?_
          simp -dsimp [bsF]
          exact ⟨rfl, mkS 42 [] bsF, Wk.lessE [6] (by simp) (by simp [bsF, chkS, hs]), subB_ok (by simp [bsF])⟩
        | succ i =>
          simp -dsimp [hu]
          repeat (first | refine WP.seq ?_ | refine WP.block ?_ | (refine WP.region Try.tab ?_; simp -dsimp) | (refine WP.draw Try.tab Try.mixed ?_; simp -dsimp) | refine And.intro (by first | rfl | omega | decide | (simp; done) | (simp; omega) | (intro _ h; exact fcs_side h; done) | (intros; simp_all; done)) ?_)
          refine vcStop.call0 Try.body29 (check_ok s) rfl rfl (by simp [hu]) ?_
          simp -dsimp
          repeat (first | refine WP.seq ?_ | refine WP.block ?_ | (refine WP.region Try.tab ?_; simp -dsimp) | (refine WP.draw Try.tab Try.mixed ?_; simp -dsimp) | refine And.intro (by first | rfl | omega | decide | (simp; done) | (simp; omega) | (intro _ h; exact fcs_side h; done) | (intros; simp_all; done)) ?_)
          refine WP.cond (b := true) (by simp [chkS, hs]) (fun _ => ?_) (fun h => by cases h)
          repeat (first | refine WP.seq ?_ | refine WP.block ?_ | (refine WP.region Try.tab ?_; simp -dsimp) | (refine WP.draw Try.tab Try.mixed ?_; simp -dsimp) | refine And.intro (by first | rfl | omega | decide | (simp; done) | (simp; omega) | (intro _ h; exact fcs_side h; done) | (intros; simp_all; done)) ?_)
          refine WP.ret ?_
          simp -dsimp [bsF]
          exact ⟨rfl, mkS 42 [] bsF, Wk.lessE [6] (by simp) (by simp [bsF, chkS, hs]), subB_ok (by simp [bsF])⟩
    · intro G
      rw [show pendOf (fun i => if i = p.length then some Code.ret else none) (p.length + 1) = some Code.ret from if_pos rfl, endQ_some, if_pos rfl]
      simp -dsimp [bsF]
      refine WP.ret (finQR.retM ?_ G 701 rfl rfl rfl)
      simp -dsimp [hR2]
  · have hR2 : addR a b = limL (tidyR (sumsL x y)) := by rw [hR, addC, if_neg hn, hall]; rfl
    refine WP.rangeFuncE Try.body53 (m := (sumsL x y).length) (jump := fun _ => none) (sums_it x y (fun _ => true) (sumsL x y).length hx hy (Nat.le_refl _) (fun _ _ => rfl) (.inl rfl))
      (bsB (sumsL x y)) (mkS 42 [(4, .ptr 1100 0), (5, .ptr 1101 0)] []).sl 990 (rl [(1000, 600), (1001, 602), (1100, 4), (1101, 5), (505, 700), (990, 701)]) rfl rfl rfl (by simp) (by simp) (by simp)
      (fun i _ => bsB_singles _ i) (by cases (sumsL x y).length <;> simp) (by simp) (by cases (sumsL x y).length <;> simp) (by simp) (by decide) (by cases (sumsL x y).length <;> simp) (fun i hi => rfl) (fun _ _ => rfl) ?_ (fun G => CallOk.of (by simp [hb]) (by cases (sumsL x y).length <;> simp) (by cases (sumsL x y).length <;> simp) (by cases (sumsL x y).length <;> simp) (by cases (sumsL x y).length <;> simp)) (fun G => by cases (sumsL x y).length <;> simp) ?_
    · intro i hi lp β1
      have hok0 : okS ((sumsL x y)[i]'hi) = true := List.all_eq_true.1 hall _ (List.getElem_mem hi)
      have hu : (sumsL x y)[i]?.getD (0, 0) = (sumsL x y)[i]'hi := by rw [List.getElem?_eq_getElem hi]; rfl
      have ht : (sumsL x y).take (i + 1) = (sumsL x y).take i ++ [(sumsL x y)[i]'hi] := by
        rw [List.take_add_one, List.getElem?_eq_getElem hi]; rfl
      generalize (sumsL x y)[i]'hi = u at hu hok0 ht
      have hok := hok0
      cases i with
      | zero =>
        simp only [Nat.zero_add] at ht
        simp -dsimp [hu]
        repeat (first | refine WP.seq ?_ | refine WP.block ?_ | (refine WP.region Try.tab ?_; simp -dsimp) | (refine WP.draw Try.tab Try.mixed ?_; simp -dsimp) | refine And.intro (by first | rfl | omega | decide | (simp; done) | (simp; omega) | (intro _ h; exact fcs_side h; done) | (intros; simp_all; done)) ?_)
        refine vcStop.call0 Try.body29 (check_ok u) rfl rfl (by simp [hu]) ?_
        simp -dsimp
        repeat (first | refine WP.seq ?_ | refine WP.block ?_ | (refine WP.region Try.tab ?_; simp -dsimp) | (refine WP.draw Try.tab Try.mixed ?_; simp -dsimp) | refine And.intro (by first | rfl | omega | decide | (simp; done) | (simp; omega) | (intro _ h; exact fcs_side h; done) | (intros; simp_all; done)) ?_)
        refine WP.cond (b := false) (by simp [chkS, hok]) (fun h => by cases h) (fun _ => ?_)
        refine WP.skip ?_
        simp -dsimp
        repeat (first | refine WP.seq ?_ | refine WP.block ?_ | (refine WP.region Try.tab ?_; simp -dsimp) | (refine WP.draw Try.tab Try.mixed ?_; simp -dsimp) | refine And.intro (by first | rfl | omega | decide | (simp; done) | (simp; omega) | (intro _ h; exact fcs_side h; done) | (intros; simp_all; done)) ?_)
        exact ⟨mkS 42 [] (bsB (sumsL x y) 1), Wk.go [6, 35] 36 505 (by decide) (by simp) (by simp) (by simp [ht, hu, chkS, hok]), subB_ok (by simp)⟩
      | succ i =>
        simp -dsimp [hu]
        repeat (first | refine WP.seq ?_ | refine WP.block ?_ | (refine WP.region Try.tab ?_; simp -dsimp) | (refine WP.draw Try.tab Try.mixed ?_; simp -dsimp) | refine And.intro (by first | rfl | omega | decide | (simp; done) | (simp; omega) | (intro _ h; exact fcs_side h; done) | (intros; simp_all; done)) ?_)
        refine vcStop.call0 Try.body29 (check_ok u) rfl rfl (by simp [hu]) ?_
        simp -dsimp
        repeat (first | refine WP.seq ?_ | refine WP.block ?_ | (refine WP.region Try.tab ?_; simp -dsimp) | (refine WP.draw Try.tab Try.mixed ?_; simp -dsimp) | refine And.intro (by first | rfl | omega | decide | (simp; done) | (simp; omega) | (intro _ h; exact fcs_side h; done) | (intros; simp_all; done)) ?_)
        refine WP.cond (b := false) (by simp [chkS, hok]) (fun h => by cases h) (fun _ => ?_)
        refine WP.skip ?_
        simp -dsimp
        repeat (first | refine WP.seq ?_ | refine WP.block ?_ | (refine WP.region Try.tab ?_; simp -dsimp) | (refine WP.draw Try.tab Try.mixed ?_; simp -dsimp) | refine And.intro (by first | rfl | omega | decide | (simp; done) | (simp; omega) | (intro _ h; exact fcs_side h; done) | (intros; simp_all; done)) ?_)
        exact ⟨mkS 42 [] (bsB (sumsL x y) (i + 1 + 1)), Wk.go [6, 35] 36 505 (by decide) (by simp) (by simp) (by simp [ht, hu, chkS, hok]), subB_ok (by simp)⟩
    · intro G
      have hS : ∀ s ∈ sumsL x y, okS s = true := fun s h => List.all_eq_true.1 hall s h
      generalize sumsL x y = S at hR2 hSl hS
      cases S with
      | nil =>
        simp -dsimp
        repeat (first | refine WP.seq ?_ | refine WP.block ?_ | (refine WP.region Try.tab ?_; simp -dsimp) | (refine WP.draw Try.tab Try.mixed ?_; simp -dsimp) | refine And.intro (by first | rfl | omega | decide | (simp; done) | (simp; omega) | (intro _ h; exact fcs_side h; done) | (intros; simp_all; done)) ?_)
        refine vcStop.call0L Try.body33 (tidy_ok [] (by simp) (by simp)) rfl rfl (And.intro (Leq.data (DLe.nil 2)) trivial) ?_
        simp -dsimp
        repeat refine And.intro (by first | rfl | omega | decide | (simp; done) | (simp; omega) | (intro _ h; exact fcs_side h; done) | (intros; simp_all; done)) ?_
        refine vcStop.call0 Try.body35 (limited_ok (tidyR [])) rfl rfl (by simp) ?_
        simp -dsimp
        repeat (first | refine WP.seq ?_ | refine WP.block ?_ | (refine WP.region Try.tab ?_; simp -dsimp) | (refine WP.draw Try.tab Try.mixed ?_; simp -dsimp) | refine And.intro (by first | rfl | omega | decide | (simp; done) | (simp; omega) | (intro _ h; exact fcs_side h; done) | (intros; simp_all; done)) ?_)
        refine WP.ret (finQR.retM ?_ G 701 rfl rfl rfl)
        simp -dsimp [hR2]
      | cons s S =>
        simp -dsimp
        repeat (first | refine WP.seq ?_ | refine WP.block ?_ | (refine WP.region Try.tab ?_; simp -dsimp) | (refine WP.draw Try.tab Try.mixed ?_; simp -dsimp) | refine And.intro (by first | rfl | omega | decide | (simp; done) | (simp; omega) | (intro _ h; exact fcs_side h; done) | (intros; simp_all; done)) ?_)
        refine vcStop.call Try.body33 (tidy_row (s :: S) (by omega) hS) (rl [(1000, 700)]) rfl rfl (by simp [BoxLeq]) (CallOk.of (by simp [BoxLeq]) rfl (by first | rfl | (simp [BoxLeq]; done)) (by simp [BoxLeq]) (by simp [BoxLeq])) (fun _ h => h.elim) (fun ⟨_, h⟩ => h.elim) (fun ⟨_, h⟩ => h.elim) (by simp [BoxLeq]) ?_
        simp -dsimp
        repeat refine And.intro (by first | rfl | omega | decide | (simp; done) | (simp; omega) | (intro _ h; exact fcs_side h; done) | (intros; simp_all; done)) ?_
        refine vcStop.call0 Try.body35 (limited_ok (tidyR (s :: S))) rfl rfl (by simp) ?_
        simp -dsimp
        repeat (first | refine WP.seq ?_ | refine WP.block ?_ | (refine WP.region Try.tab ?_; simp -dsimp) | (refine WP.draw Try.tab Try.mixed ?_; simp -dsimp) | refine And.intro (by first | rfl | omega | decide | (simp; done) | (simp; omega) | (intro _ h; exact fcs_side h; done) | (intros; simp_all; done)) ?_)
        refine WP.ret (finQR.retM ?_ G 701 rfl rfl rfl)
        simp -dsimp [hR2]
end Go.Proofs.Ytphbappgmoojeaa
