/-
  Spans: the reference's Add; lists written out; is a list tidy?
-/
import Derived.Test.YtphbappgmoojeaaKHp
import Derived.Test.YtphbappgmoojeaaKHn
set_option linter.unusedSectionVars false
set_option linter.unusedSimpArgs false
set_option linter.unusedVariables false
namespace Go.Proofs.Ytphbappgmoojeaa
open Go.Xe Go.RowKit

theorem sums_snoc (l : List Sp) (x : Sp) (y : List Sp) : sumsL (l ++ [x]) y = sumsL l y ++ y.map (adS x) := by
  have h : ∀ x : Sp, adS x = fun y => (x.1 + y.1, x.2 + y.2) := fun _ => rfl
  simp [sumsL, h]
theorem sums_in {x y : List Sp} {s t : Sp} (hs : s ∈ x) (ht : t ∈ y) : adS s t ∈ sumsL x y := by
  simp only [sumsL, List.mem_flatMap, List.mem_map]
  exact ⟨s, hs, t, ht, rfl⟩
set_option maxRecDepth 10000 in
set_option maxHeartbeats 4000000 in
theorem refAdd_ok (a b : List Sp) : Fn0 Try.prog 14 [slS a, slS b] (resD (addR a b)) := by
  refine Fun.of_wp (pn := noPn) Try.tab Try.func14 rfl fun β0 => ?_
  simp only [Try.f14]
  repeat (first | refine WP.seq ?_ | refine WP.block ?_ | (refine WP.region Try.tab ?_; simp -dsimp) | (refine WP.draw Try.tab Try.mixed ?_; simp -dsimp) | refine And.intro (by first | rfl | omega | decide | (simp; done) | (simp; omega) | (intro _ h; exact fcs_side h; done) | (intros; simp_all; done)) ?_)
  refine vcStop.call0 Try.body36 (both2_ok a b) rfl rfl (by simp) ?_
  simp -dsimp
  repeat (first | refine WP.seq ?_ | refine WP.block ?_ | (refine WP.region Try.tab ?_; simp -dsimp) | (refine WP.draw Try.tab Try.mixed ?_; simp -dsimp) | refine And.intro (by first | rfl | omega | decide | (simp; done) | (simp; omega) | (intro _ h; exact fcs_side h; done) | (intros; simp_all; done)) ?_)
  refine WP.cond (b := !decide (chkLs [a, b] = 0)) (by simp) (fun hb => ?_) (fun hb => ?_)
  · have hb : ¬ chkLs [a, b] = 0 := by simpa using hb
    repeat (first | refine WP.seq ?_ | refine WP.block ?_ | (refine WP.region Try.tab ?_; simp -dsimp) | (refine WP.draw Try.tab Try.mixed ?_; simp -dsimp) | refine And.intro (by first | rfl | omega | decide | (simp; done) | (simp; omega) | (intro _ h; exact fcs_side h; done) | (intros; simp_all; done)) ?_)
    refine WP.ret (finQ.retE ?_)
    simp -dsimp [addR, bothR, hb]
  have hb : chkLs [a, b] = 0 := by simpa using hb
  obtain ⟨⟨a1, a2⟩, b1, b2⟩ := chk2_zero hb
  refine WP.skip ?_
  simp -dsimp
  repeat (first | refine WP.seq ?_ | refine WP.block ?_ | (refine WP.region Try.tab ?_; simp -dsimp) | (refine WP.draw Try.tab Try.mixed ?_; simp -dsimp) | refine And.intro (by first | rfl | omega | decide | (simp; done) | (simp; omega) | (intro _ h; exact fcs_side h; done) | (intros; simp_all; done)) ?_)
  refine vcStop.call0 Try.body37 (refTidy_ok a (by omega) a2) rfl rfl (by simp) ?_
  simp -dsimp
  repeat (first | refine WP.seq ?_ | refine WP.block ?_ | (refine WP.region Try.tab ?_; simp -dsimp) | (refine WP.draw Try.tab Try.mixed ?_; simp -dsimp) | refine And.intro (by first | rfl | omega | decide | (simp; done) | (simp; omega) | (intro _ h; exact fcs_side h; done) | (intros; simp_all; done)) ?_)
  refine vcStop.call0 Try.body37 (refTidy_ok b (by omega) b2) rfl rfl (by simp) ?_
  simp -dsimp
  repeat (first | refine WP.seq ?_ | refine WP.block ?_ | (refine WP.region Try.tab ?_; simp -dsimp) | (refine WP.draw Try.tab Try.mixed ?_; simp -dsimp) | refine And.intro (by first | rfl | omega | decide | (simp; done) | (simp; omega) | (intro _ h; exact fcs_side h; done) | (intros; simp_all; done)) ?_)
  have hta := tidyR_len a
  have htb := tidyR_len b
  have hx := tidyR_okS a2
  have hy := tidyR_okS b2
  generalize hxe : tidyR a = x at hta hx
  generalize hye : tidyR b = y at htb hy
  have hxy : x.length * y.length ≤ 4096 * 4096 := Nat.mul_le_mul (by omega) (by omega)
  have em : IntKind.i64.wrap ((x.length : Int) * y.length) = (x.length : Int) * y.length := by
    rw [← Int.natCast_mul]; exact IntWalk.i64_in _ (by omega)
  have ec : decide (65536 < (x.length : Int) * y.length) = decide (65536 < x.length * y.length) := by
    rw [← Int.natCast_mul, Bool.eq_iff_iff, decide_eq_true_eq, decide_eq_true_eq]; omega
  have hR : addR a b = addC x y := by rw [addR, bothR, if_pos hb, hxe, hye]
  refine WP.cond (b := decide (65536 < x.length * y.length)) (by simp [em, ec]) (fun hn => ?_) (fun hn => ?_)
  · have hn := of_decide_eq_true hn
    repeat (first | refine WP.seq ?_ | refine WP.block ?_ | (refine WP.region Try.tab ?_; simp -dsimp) | (refine WP.draw Try.tab Try.mixed ?_; simp -dsimp) | refine And.intro (by first | rfl | omega | decide | (simp; done) | (simp; omega) | (intro _ h; exact fcs_side h; done) | (intros; simp_all; done)) ?_)
    refine WP.ret (finQ.retE ?_)
    simp -dsimp [hR, addC, hn]
  have hn := of_decide_eq_false hn
  have hSl : (sumsL x y).length ≤ 65536 := by rw [sumsL_len]; omega
  refine WP.skip ?_
  simp -dsimp
  repeat (first | refine WP.seq ?_ | refine WP.block ?_ | (refine WP.region Try.tab ?_; simp -dsimp) | (refine WP.draw Try.tab Try.mixed ?_; simp -dsimp) | refine And.intro (by first | rfl | omega | decide | (simp; done) | (simp; omega) | (intro _ h; exact fcs_side h; done) | (intros; simp_all; done)) ?_)
  refine WP.loopWk (fun m S => ∃ l1 l2, x = l1 ++ l2 ∧ m = l2.length ∧ (sumsL l1 y).all okS = true ∧ S = mkS 75 [(7, .d (slS x)), (8, .d (slS y)), (9, .d (slS (tidyR (sumsL l1 y)))), (10, .d (.v (.int .i64 l1.length)))] []) x.length
    (S0 := mkS 75 [(7, .d (slS x)), (8, .d (slS y)), (9, .d (slS [])), (10, .d (.v (.int .i64 0)))] []) ((Wk.freeze (k := 29) (T := 37) (sz := 2) (n := 0) (ds := []) (by simp)).trans (Wk.lessE [] (by simp) (by simp))) ⟨[], x, rfl, rfl, rfl, rfl⟩ ?_
  rintro _ _ ⟨l1, l2, hl12, rfl, hall, rfl⟩
  simp -dsimp
  repeat (first | refine WP.seq ?_ | refine WP.block ?_ | (refine WP.region Try.tab ?_; simp -dsimp) | (refine WP.draw Try.tab Try.mixed ?_; simp -dsimp) | refine And.intro (by first | rfl | omega | decide | (simp; done) | (simp; omega) | (intro _ h; exact fcs_side h; done) | (intros; simp_all; done)) ?_)
  cases l2 with
  | nil =>
    simp only [List.append_nil] at hl12
    subst hl12
    have hR2 : addR a b = limL (tidyR (sumsL x y)) := by rw [hR, addC, if_neg hn, hall]; rfl
    refine WP.cond (b := false) (by simp) (fun h => by cases h) (fun _ => ?_)
    refine WP.exit ?_
    simp -dsimp
    repeat (first | refine WP.seq ?_ | refine WP.block ?_ | (refine WP.region Try.tab ?_; simp -dsimp) | (refine WP.draw Try.tab Try.mixed ?_; simp -dsimp) | refine And.intro (by first | rfl | omega | decide | (simp; done) | (simp; omega) | (intro _ h; exact fcs_side h; done) | (intros; simp_all; done)) ?_)
    refine vcStop.call0 Try.body39 (refLimited_ok (tidyR (sumsL x y))) rfl rfl (by simp) ?_
    simp -dsimp
    repeat (first | refine WP.seq ?_ | refine WP.block ?_ | (refine WP.region Try.tab ?_; simp -dsimp) | (refine WP.draw Try.tab Try.mixed ?_; simp -dsimp) | refine And.intro (by first | rfl | omega | decide | (simp; done) | (simp; omega) | (intro _ h; exact fcs_side h; done) | (intros; simp_all; done)) ?_)
    refine WP.ret (finQ.retE ?_)
    simp -dsimp [hR2]
  | cons s l2 =>
    have hll : x.length = l1.length + (l2.length + 1) := by rw [hl12]; simp
    have hs : okS s = true := hx s (by rw [hl12]; simp)
    have e1 : IntKind.i64.wrap ((l1.length : Int) + 1) = (l1.length : Int) + 1 := IntWalk.i64_in _ (by omega)
    have h1 := spC_at l1 s l2
    rw [← hl12] at h1
    refine WP.cond (b := true) (by simp; omega) (fun _ => ?_) (fun h => by cases h)
    refine WP.skip ?_
    simp -dsimp
    refine WP.seq (WP.block ?_)
    repeat (first | refine WP.seq ?_ | refine WP.block ?_ | (refine WP.region Try.tab ?_; simp -dsimp) | (refine WP.draw Try.tab Try.mixed ?_; simp -dsimp) | refine And.intro (by first | rfl | omega | decide | (simp; done) | (simp; omega) | (intro _ h; exact fcs_side h; done) | (intros; simp_all; done)) ?_)
    refine WP.loopWk (fun m S => ∃ b1 b3, y = b1 ++ b3 ∧ m = b3.length ∧ (sumsL l1 y ++ b1.map (adS s)).all okS = true ∧ S = mkS 75 [(7, .d (slS x)), (8, .d (slS y)), (9, .d (slS (tidyR (sumsL l1 y ++ b1.map (adS s))))), (10, .d (.v (.int .i64 l1.length))), (11, .d (.v (.int .i64 b1.length)))] []) y.length
      (S0 := mkS 75 [(7, .d (slS x)), (8, .d (slS y)), (9, .d (slS (tidyR (sumsL l1 y)))), (10, .d (.v (.int .i64 l1.length))), (11, .d (.v (.int .i64 0)))] []) (Wk.lessE [] (by simp) (by simp)) ⟨[], y, rfl, rfl, by simpa using hall, by simp⟩ ?_
    rintro _ _ ⟨b1', b3, hb13, rfl, hall2, rfl⟩
    simp -dsimp
    repeat (first | refine WP.seq ?_ | refine WP.block ?_ | (refine WP.region Try.tab ?_; simp -dsimp) | (refine WP.draw Try.tab Try.mixed ?_; simp -dsimp) | refine And.intro (by first | rfl | omega | decide | (simp; done) | (simp; omega) | (intro _ h; exact fcs_side h; done) | (intros; simp_all; done)) ?_)
    cases b3 with
    | nil =>
      simp only [List.append_nil] at hb13
      subst hb13
      refine WP.cond (b := false) (by simp) (fun h => by cases h) (fun _ => ?_)
      refine WP.exit ?_
      simp -dsimp
      repeat (first | refine WP.seq ?_ | refine WP.block ?_ | (refine WP.region Try.tab ?_; simp -dsimp) | (refine WP.draw Try.tab Try.mixed ?_; simp -dsimp) | refine And.intro (by first | rfl | omega | decide | (simp; done) | (simp; omega) | (intro _ h; exact fcs_side h; done) | (intros; simp_all; done)) ?_)
      refine loopW.next (mkS 75 [(7, .d (slS x)), (8, .d (slS y)), (9, .d (slS (tidyR (sumsL (l1 ++ [s]) y)))), (10, .d (.v (.int .i64 (l1 ++ [s]).length)))] []) (Wk.lessE [] (by simp [e1, sums_snoc]) (by simp)) l2.length (by simp) ⟨l1 ++ [s], l2, by simp [hl12], rfl, by rw [sums_snoc]; exact hall2, rfl⟩
    | cons t b3 =>
      have hlb1 : y.length = b1'.length + (b3.length + 1) := by rw [hb13]; simp
      have ht : okS t = true := hy t (by rw [hb13]; simp)
      obtain ⟨w1, w2⟩ := sums_okS hs ht
      have e2 : IntKind.i64.wrap ((b1'.length : Int) + 1) = (b1'.length : Int) + 1 := IntWalk.i64_in _ (by omega)
      have h2 := spC_at b1' t b3
      rw [← hb13] at h2
      have hP : ∀ u ∈ sumsL l1 y ++ b1'.map (adS s), okS u = true := fun u h => List.all_eq_true.1 hall2 u h
      have hPl : (sumsL l1 y ++ b1'.map (adS s)).length ≤ 65536 := by
        have := (sums_get hl12 hb13).2
        rw [List.length_append, sumsL_len, List.length_map]
        omega
      have hTl := tidyR_len (sumsL l1 y ++ b1'.map (adS s))
      have hin : adS s t ∈ sumsL x y := sums_in (by rw [hl12]; simp) (by rw [hb13]; simp)
      have hsn : sumsL l1 y ++ (b1' ++ [t]).map (adS s) = sumsL l1 y ++ b1'.map (adS s) ++ [adS s t] := by simp
      have hsl : (b1' ++ [t]).length = b1'.length + 1 := by simp
      refine WP.cond (b := true) (by simp; omega) (fun _ => ?_) (fun h => by cases h)
      refine WP.skip ?_
      simp -dsimp
      refine WP.seq (WP.block ?_)
      repeat (first | refine WP.seq ?_ | refine WP.block ?_ | (refine WP.region Try.tab ?_; simp -dsimp [h1, h2, w1, w2]) | (refine WP.draw Try.tab Try.mixed ?_; simp -dsimp [h1, h2, w1, w2]) | refine And.intro (by first | rfl | omega | decide | (simp; done) | (simp; omega) | (intro _ h; exact fcs_side h; done) | (intros; simp_all; done)) ?_)
      refine vcStop.call0 Try.body30 (refCheck_ok (adS s t)) rfl rfl (by simp [adS, w1, w2]) ?_
      simp -dsimp
      repeat (first | refine WP.seq ?_ | refine WP.block ?_ | (refine WP.region Try.tab ?_; simp -dsimp) | (refine WP.draw Try.tab Try.mixed ?_; simp -dsimp) | refine And.intro (by first | rfl | omega | decide | (simp; done) | (simp; omega) | (intro _ h; exact fcs_side h; done) | (intros; simp_all; done)) ?_)
      refine WP.cond (b := !okS (adS s t)) (by simp [chkS_bool2]) (fun hc => ?_) (fun hc => ?_)
      · have hc : okS (adS s t) = false := by simpa using hc
        have hR2 : addR a b = ([], 10) := by
          have hf : (sumsL x y).all okS = false := by
            cases h : (sumsL x y).all okS with
            | false => rfl
            | true => have := List.all_eq_true.1 h _ hin; rw [hc] at this; cases this
          rw [hR, addC, if_neg hn, hf]; rfl
        repeat (first | refine WP.seq ?_ | refine WP.block ?_ | (refine WP.region Try.tab ?_; simp -dsimp) | (refine WP.draw Try.tab Try.mixed ?_; simp -dsimp) | refine And.intro (by first | rfl | omega | decide | (simp; done) | (simp; omega) | (intro _ h; exact fcs_side h; done) | (intros; simp_all; done)) ?_)
        refine WP.ret (finQ.retE ?_)
        simp -dsimp [hR2]
      · have hc : okS (adS s t) = true := by simpa using hc
        refine WP.skip ?_
        simp -dsimp
        repeat (first | refine WP.seq ?_ | refine WP.block ?_ | (refine WP.region Try.tab ?_; simp -dsimp [h1, h2, w1, w2]) | (refine WP.draw Try.tab Try.mixed ?_; simp -dsimp [h1, h2, w1, w2]) | refine And.intro (by first | rfl | omega | decide | (simp; done) | (simp; omega) | (intro _ h; exact fcs_side h; done) | (intros; simp_all; done)) ?_)
        refine vcStop.call0 Try.body38 (with_ok (tidyR (sumsL l1 y ++ b1'.map (adS s))) (adS s t) (by omega) (tidyR_tidy hP) (tidyR_okS hP) hc) rfl rfl (by simp [adS, w1, w2]) ?_
        simp -dsimp
        repeat (first | refine WP.seq ?_ | refine WP.block ?_ | (refine WP.region Try.tab ?_; simp -dsimp) | (refine WP.draw Try.tab Try.mixed ?_; simp -dsimp) | refine And.intro (by first | rfl | omega | decide | (simp; done) | (simp; omega) | (intro _ h; exact fcs_side h; done) | (intros; simp_all; done)) ?_)
        refine loopW.next (mkS 75 [(7, .d (slS x)), (8, .d (slS y)), (9, .d (slS (tidyR (sumsL l1 y ++ (b1' ++ [t]).map (adS s))))), (10, .d (.v (.int .i64 l1.length))), (11, .d (.v (.int .i64 (b1' ++ [t]).length)))] []) (Wk.lessE [12] (by rw [hsn, tidyR_snoc, hsl]; simp [e2]) (by simp)) b3.length (by simp) ⟨b1' ++ [t], b3, by simp [hb13], rfl, by rw [hsn, List.all_append, hall2]; simp [hc], rfl⟩

/-! ### lists written out -/
def prs : List Int → List Sp
  | a :: b :: l => (a, b) :: prs l
  | _ => []
theorem prs_app : ∀ (a : List Sp) (l : List Int), prs (a.flatMap (fun s => [s.1, s.2]) ++ l) = a ++ prs l
  | [], _ => rfl
  | s :: a, l => by simp only [List.flatMap_cons, List.append_assoc, List.cons_append, List.nil_append, prs, prs_app a l]
def intsF (a : List Sp) : List Int := a.flatMap fun s => [s.1, s.2]
theorem intsF_len (a : List Sp) : (intsF a).length = a.length * 2 := by
  induction a with
  | nil => rfl
  | cons s a ih => simp only [intsF, List.flatMap_cons, List.length_append, List.length_cons, List.length_nil] at *; omega
theorem iD_at2 (a : List Int) (x y : Int) (b : List Int) : (iD (a ++ x :: y :: b)).drop (a.length + 1) = .v (.int .i64 y) :: iD b := by
  have h := iD_at (a ++ [x]) y b
  simp only [List.append_assoc, List.cons_append, List.nil_append, List.length_append, List.length_cons, List.length_nil] at h
  exact h
set_option maxRecDepth 10000 in
set_option maxHeartbeats 4000000 in
theorem of_ok (l : List Int) (hl : l.length ≤ 1000) : Fn0 Try.prog 22 [slI l] (slS (prs l)) := by
  refine Fun.of_wp (pn := noPn) Try.tab Try.func22 rfl fun β0 => ?_
  simp only [Try.f22]
  repeat (first | refine WP.seq ?_ | refine WP.block ?_ | (refine WP.region Try.tab ?_; simp -dsimp) | (refine WP.draw Try.tab Try.mixed ?_; simp -dsimp) | refine And.intro (by first | rfl | omega | decide | (simp; done) | (simp; omega) | (intro _ h; exact fcs_side h; done) | (intros; simp_all; done)) ?_)
  refine WP.loopWk (fun m S => ∃ p a l2, l = p ++ l2 ∧ p = intsF a ∧ m = l2.length ∧ S = mkS 27 [(0, .d (slI l)), (3, .row 500), (4, .d (.v (.int .i64 p.length)))] [(500, .row 37 2 a.length ((spC a).map .d))]) l.length
    (S0 := mkS 27 [(0, .d (slI l)), (3, .row 500), (4, .d (.v (.int .i64 0)))] [(500, .row 37 2 0 [])]) (Wk.go [] 5 500 (by decide) (by simp) (by simp) (by simp)) ⟨[], [], l, rfl, rfl, rfl, rfl⟩ ?_
  rintro _ _ ⟨p, a, l2, hl12, hpa, rfl, rfl⟩
  have hla := intsF_len a
  rw [← hpa] at hla
  have hlen : l.length = p.length + l2.length := by rw [hl12, List.length_append]
  have e1 : IntKind.i64.wrap ((p.length : Int) + 1) = (p.length : Int) + 1 := IntWalk.i64_in _ (by omega)
  have e2 : IntKind.i64.wrap ((p.length : Int) + 2) = (p.length : Int) + 2 := IntWalk.i64_in _ (by omega)
  simp -dsimp [e1]
  repeat (first | refine WP.seq ?_ | refine WP.block ?_ | (refine WP.region Try.tab ?_; simp -dsimp [e1]) | (refine WP.draw Try.tab Try.mixed ?_; simp -dsimp [e1]) | refine And.intro (by first | rfl | omega | decide | (simp; done) | (simp; omega) | (intro _ h; exact fcs_side h; done) | (intros; simp_all; done)) ?_)
  have fin : prs l = a ++ prs l2 := by rw [hl12, hpa]; exact prs_app a l2
  rcases l2 with _ | ⟨x, _ | ⟨y, l2⟩⟩
  · simp only [List.length_nil] at hlen
    refine WP.cond (b := false) (by simp [e1]; omega) (fun h => by cases h) (fun _ => ?_)
    refine WP.exit ?_
    simp -dsimp
    repeat (first | refine WP.seq ?_ | refine WP.block ?_ | (refine WP.region Try.tab ?_; simp -dsimp) | (refine WP.draw Try.tab Try.mixed ?_; simp -dsimp) | refine And.intro (by first | rfl | omega | decide | (simp; done) | (simp; omega) | (intro _ h; exact fcs_side h; done) | (intros; simp_all; done)) ?_)
    rw [fin]
    refine WP.ret (finQ.retWE (Wk.freeze (k := 500) (T := 37) (sz := 2) (n := a.length) (ds := spC a) (by simp)) ?_)
    simp -dsimp [prs]
  · simp only [List.length_cons, List.length_nil] at hlen
    refine WP.cond (b := false) (by simp [e1]; omega) (fun h => by cases h) (fun _ => ?_)
    refine WP.exit ?_
    simp -dsimp
    repeat (first | refine WP.seq ?_ | refine WP.block ?_ | (refine WP.region Try.tab ?_; simp -dsimp) | (refine WP.draw Try.tab Try.mixed ?_; simp -dsimp) | refine And.intro (by first | rfl | omega | decide | (simp; done) | (simp; omega) | (intro _ h; exact fcs_side h; done) | (intros; simp_all; done)) ?_)
    rw [fin]
    refine WP.ret (finQ.retWE (Wk.freeze (k := 500) (T := 37) (sz := 2) (n := a.length) (ds := spC a) (by simp)) ?_)
    simp -dsimp [prs]
  · have h1 := iD_at p x (y :: l2)
    rw [← hl12] at h1
    have h2 := iD_at2 p x y l2
    rw [← hl12] at h2
    have ec : ((p.length : Int) + 1).toNat = p.length + 1 := by omega
    simp only [List.length_cons] at hlen
    refine WP.cond (b := true) (by simp [e1]; omega) (fun _ => ?_) (fun h => by cases h)
    refine WP.skip ?_
    simp -dsimp
    refine WP.seq (WP.block ?_)
    repeat (first | refine WP.seq ?_ | refine WP.block ?_ | (refine WP.region Try.tab ?_; simp -dsimp [h1, h2, e1, ec]) | (refine WP.draw Try.tab Try.mixed ?_; simp -dsimp [h1, h2, e1, ec]) | refine And.intro (by first | rfl | omega | decide | (simp; done) | (simp; omega) | (intro _ h; exact fcs_side h; done) | (intros; simp_all; done)) ?_)
    refine loopW.next (mkS 27 [(0, .d (slI l)), (3, .row 500), (4, .d (.v (.int .i64 (p ++ [x, y]).length)))] [(500, .row 37 2 (a ++ [(x, y)]).length ((spC (a ++ [(x, y)])).map .d))])
      (Wk.go [24] 25 500 (by decide) (by simp) (by simp [e2]) (by simp [h1, h2, e1, ec])) l2.length (by first | omega | (simp; omega)) ⟨p ++ [x, y], a ++ [(x, y)], l2, by rw [hl12]; simp, by rw [hpa]; simp [intsF], rfl, rfl⟩
end Go.Proofs.Ytphbappgmoojeaa
