/-
  The law on sums.
-/
import Derived.Test.YtphbappgmoojeaaKSe
import Derived.Test.YtphbappgmoojeaaK4
set_option linter.unusedSectionVars false
set_option linter.unusedSimpArgs false
set_option linter.unusedVariables false
namespace Go.Proofs.Ytphbappgmoojeaa
open Go.Xe Go.RowKit

theorem spC_drop : ∀ (l : List Sp) (k : Nat), (spC l).drop (k * 2) = spC (l.drop k)
  | l, 0 => by simp
  | [], k + 1 => by simp
  | s :: l, k + 1 => by
    rw [Nat.succ_mul, show k * 2 + 2 = (k * 2 + 1) + 1 from rfl, spC, List.drop_succ_cons, List.drop_succ_cons, spC_drop l k]; rfl
theorem spC_take : ∀ (l : List Sp) (k : Nat), (spC l).take (k * 2) = spC (l.take k)
  | l, 0 => by simp
  | [], k + 1 => by simp
  | s :: l, k + 1 => by
    rw [Nat.succ_mul, show k * 2 + 2 = (k * 2 + 1) + 1 from rfl, spC, List.take_succ_cons, List.take_succ_cons, spC_take l k]; rfl
def loA (u : Sp) (a b : List Sp) : Bool := a.any fun s => b.any fun t => decide (s.1 + t.1 = u.1)
def hiA (u : Sp) (a b : List Sp) : Bool := a.any fun s => b.any fun t => decide (s.2 + t.2 = u.2)
theorem loA_snoc (u : Sp) (a : List Sp) (s : Sp) (b : List Sp) : loA u (a ++ [s]) b = (loA u a b || b.any fun t => decide (s.1 + t.1 = u.1)) := by simp [loA]
theorem hiA_snoc (u : Sp) (a : List Sp) (s : Sp) (b : List Sp) : hiA u (a ++ [s]) b = (hiA u a b || b.any fun t => decide (s.2 + t.2 = u.2)) := by simp [hiA]
set_option maxRecDepth 10000 in
set_option maxHeartbeats 4000000 in
theorem law_sums (a b : List Sp) (s t : Int) (n : Nat) (hn : n < 18446744073709551616) : Fn0 Try.prog 5 [slS a, slS b, .v (.int .i64 s), .v (.int .i64 t), .v (.int .u64 n)] (.v (.bool true)) := by
  have r1 := add_ok a b
  have r2 := add_ok b a
  obtain ⟨hsw1, hsw2⟩ := add_swap a b
  have q1 := addR_ans a b
  have hno := q1.no
  have hends := add_ends (a := a) (b := b)
  have hargs := add_args (a := a) (b := b)
  have hsame := fun (a' : List Sp) (h : ∀ s, s ∈ a ↔ s ∈ a') (hl : a'.length ≤ 4096) => add_same (b := b) h hl
  have hnil : a = [] → (addR a b).1 = [] := fun h => by rw [h]; exact add_nil b
  refine Fun.of_wp (pn := noPn) Try.tab Try.func5 rfl fun β0 => ?_
  simp only [Try.f5]
  repeat (first | refine WP.seq ?_ | refine WP.block ?_ | (refine WP.region Try.tab ?_; simp -dsimp) | (refine WP.draw Try.tab Try.mixed ?_; simp -dsimp) | refine And.intro (by first | rfl | omega | decide | (simp; done) | (simp; omega) | (intro _ h; exact fcs_side h; done) | (intros; simp_all; done) | (intros; simp_all; omega)) ?_)
  refine vcStop.call0 Try.body11 sane_ok rfl rfl (by simp) ?_
  simp -dsimp
  repeat (first | refine WP.seq ?_ | refine WP.block ?_ | (refine WP.region Try.tab ?_; simp -dsimp) | (refine WP.draw Try.tab Try.mixed ?_; simp -dsimp) | refine And.intro (by first | rfl | omega | decide | (simp; done) | (simp; omega) | (intro _ h; exact fcs_side h; done) | (intros; simp_all; done) | (intros; simp_all; omega)) ?_)
  refine WP.cond (b := false) (by simp) (fun h => by cases h) (fun _ => ?_)
  refine WP.skip ?_
  simp -dsimp
  repeat (first | refine WP.seq ?_ | refine WP.block ?_ | (refine WP.region Try.tab ?_; simp -dsimp) | (refine WP.draw Try.tab Try.mixed ?_; simp -dsimp) | refine And.intro (by first | rfl | omega | decide | (simp; done) | (simp; omega) | (intro _ h; exact fcs_side h; done) | (intros; simp_all; done) | (intros; simp_all; omega)) ?_)
  refine vcStop.call0 Try.body12 (few_ok a b) rfl rfl (by simp) ?_
  simp -dsimp
  repeat (first | refine WP.seq ?_ | refine WP.block ?_ | (refine WP.region Try.tab ?_; simp -dsimp) | (refine WP.draw Try.tab Try.mixed ?_; simp -dsimp) | refine And.intro (by first | rfl | omega | decide | (simp; done) | (simp; omega) | (intro _ h; exact fcs_side h; done) | (intros; simp_all; done) | (intros; simp_all; omega)) ?_)
  refine WP.cond (b := !(decide (a.length ≤ 24) && decide (b.length ≤ 24))) (by simp) (fun h => ?_) (fun h => ?_)
  · repeat (first | refine WP.seq ?_ | refine WP.block ?_ | (refine WP.region Try.tab ?_; simp -dsimp) | (refine WP.draw Try.tab Try.mixed ?_; simp -dsimp) | refine And.intro (by first | rfl | omega | decide | (simp; done) | (simp; omega) | (intro _ h; exact fcs_side h; done) | (intros; simp_all; done) | (intros; simp_all; omega)) ?_)
    refine WP.ret (finQ.retE ?_)
    simp -dsimp
  have hla : a.length ≤ 24 := by simp at h; omega
  have hlb : b.length ≤ 24 := by simp at h; omega
  refine WP.skip ?_
  simp -dsimp
  repeat (first | refine WP.seq ?_ | refine WP.block ?_ | (refine WP.region Try.tab ?_; simp -dsimp) | (refine WP.draw Try.tab Try.mixed ?_; simp -dsimp) | refine And.intro (by first | rfl | omega | decide | (simp; done) | (simp; omega) | (intro _ h; exact fcs_side h; done) | (intros; simp_all; done) | (intros; simp_all; omega)) ?_)
  generalize addR a b = x at r1 hsw1 hsw2 q1 hno hends hargs hsame hnil
  generalize addR b a = y at r2 hsw1 hsw2
  obtain ⟨x, ex⟩ := x
  obtain ⟨y, ey⟩ := y
  simp only at hsw1 hsw2 hno hends hargs hnil
  subst hsw1
  have kx := q1.all
  simp only at kx
  have hbe : decide (ex = 0) = decide (ey = 0) := by rw [Bool.eq_iff_iff, decide_eq_true_eq, decide_eq_true_eq, hsw2]
  refine vcStop.call0 Try.body13 r1 rfl rfl (by simp) ?_
  simp -dsimp
  repeat (first | refine WP.seq ?_ | refine WP.block ?_ | (refine WP.region Try.tab ?_; simp -dsimp) | (refine WP.draw Try.tab Try.mixed ?_; simp -dsimp) | refine And.intro (by first | rfl | omega | decide | (simp; done) | (simp; omega) | (intro _ h; exact fcs_side h; done) | (intros; simp_all; done) | (intros; simp_all; omega)) ?_)
  refine vcStop.call0 Try.body13 r2 rfl rfl (by simp) ?_
  simp -dsimp
  repeat (first | refine WP.seq ?_ | refine WP.block ?_ | (refine WP.region Try.tab ?_; simp -dsimp) | (refine WP.draw Try.tab Try.mixed ?_; simp -dsimp) | refine And.intro (by first | rfl | omega | decide | (simp; done) | (simp; omega) | (intro _ h; exact fcs_side h; done) | (intros; simp_all; done) | (intros; simp_all; omega)) ?_)
  refine vcStop.call0 Try.body17 (sameT rfl kx) rfl rfl (by simp) ?_
  simp -dsimp
  repeat refine And.intro (by first | rfl | omega | decide | (simp; done) | (simp; omega) | (intro _ h; exact fcs_side h; done) | (intros; simp_all; done) | (intros; simp_all; omega)) ?_
  refine WP.cond (b := false) (by simp [hbe]) (fun h => by cases h) (fun _ => ?_)
  refine WP.skip ?_
  simp -dsimp
  repeat (first | refine WP.seq ?_ | refine WP.block ?_ | (refine WP.region Try.tab ?_; simp -dsimp) | (refine WP.draw Try.tab Try.mixed ?_; simp -dsimp) | refine And.intro (by first | rfl | omega | decide | (simp; done) | (simp; omega) | (intro _ h; exact fcs_side h; done) | (intros; simp_all; done) | (intros; simp_all; omega)) ?_)
  refine WP.cond (b := !decide (ex = 0)) (by simp) (fun h => ?_) (fun h => ?_)
  · have h : ¬ ex = 0 := by simpa using h
    have hx := hno h
    subst hx
    repeat (first | refine WP.seq ?_ | refine WP.block ?_ | (refine WP.region Try.tab ?_; simp -dsimp) | (refine WP.draw Try.tab Try.mixed ?_; simp -dsimp) | refine And.intro (by first | rfl | omega | decide | (simp; done) | (simp; omega) | (intro _ h; exact fcs_side h; done) | (intros; simp_all; done) | (intros; simp_all; omega)) ?_)
    refine WP.ret (finQ.retE ?_)
    simp -dsimp
  have hx0 : ex = 0 := by simpa using h
  subst hx0
  obtain ⟨t1, l1, m1⟩ := q1.ok rfl
  simp only at t1 l1 m1
  obtain ⟨ka, kb⟩ := hargs rfl
  have hends := hends rfl
  refine WP.skip ?_
  simp -dsimp
  refine WP.seqTo (mkS 181 [(0, .d (slS a)), (1, .d (slS b)), (4, .d (.v (.int .u64 n))), (11, .d (slS x))] []) ?_ ?_
  · have i1 := in_ok a s
    have i2 := in_ok b t
    have hin : (a.any (inS s)) = true → (b.any (inS t)) = true → Fn0 Try.prog 20 [slS x, .v (.int .i64 (IntKind.i64.wrap (s + t)))] (.v (.bool true)) := fun h1 h2 => by
      rw [any_mem] at h1 h2
      have g1 := mem_rng ka h1
      have g2 := mem_rng kb h2
      have hw : IntKind.i64.wrap (s + t) = s + t := IntWalk.i64_in _ (by omega)
      have := in_ok x (s + t)
      rw [hw]
      rwa [any_eq (b := true) (iff_of_true ((m1 _).2 ⟨s, t, h1, h2, rfl⟩) rfl)] at this
    have kt := lawTidy_ok x t1 kx l1
    generalize a.any (inS s) = pa at i1 hin
    generalize b.any (inS t) = pb at i2 hin
    repeat (first | refine WP.seq ?_ | refine WP.block ?_ | (refine WP.region Try.tab ?_; simp -dsimp) | (refine WP.draw Try.tab Try.mixed ?_; simp -dsimp) | refine And.intro (by first | rfl | omega | decide | (simp; done) | (simp; omega) | (intro _ h; exact fcs_side h; done) | (intros; simp_all; done) | (intros; simp_all; omega)) ?_)
    refine vcStop.call0 Try.body20 i1 rfl rfl (by simp) ?_
    simp -dsimp
    repeat refine And.intro (by first | rfl | omega | decide | (simp; done) | (simp; omega) | (intro _ h; exact fcs_side h; done) | (intros; simp_all; done) | (intros; simp_all; omega)) ?_
    cases pa
    · repeat refine And.intro (by first | rfl | omega | decide | (simp; done) | (simp; omega) | (intro _ h; exact fcs_side h; done) | (intros; simp_all; done) | (intros; simp_all; omega)) ?_
      refine vcStopG.skip (.d (.v (.bool false))) ?_
      simp -dsimp
      repeat refine And.intro (by first | rfl | omega | decide | (simp; done) | (simp; omega) | (intro _ h; exact fcs_side h; done) | (intros; simp_all; done) | (intros; simp_all; omega)) ?_
      refine vcStopG.skip (.d (.v (.bool false))) ?_
      simp -dsimp
      repeat refine And.intro (by first | rfl | omega | decide | (simp; done) | (simp; omega) | (intro _ h; exact fcs_side h; done) | (intros; simp_all; done) | (intros; simp_all; omega)) ?_
      refine vcStopG.call0 Try.body21 (fun _ => kt) rfl (fun _ => rfl) (fun _ => by simp) ?_
      simp -dsimp
      repeat (first | refine WP.seq ?_ | refine WP.block ?_ | (refine WP.region Try.tab ?_; simp -dsimp) | (refine WP.draw Try.tab Try.mixed ?_; simp -dsimp) | refine And.intro (by first | rfl | omega | decide | (simp; done) | (simp; omega) | (intro _ h; exact fcs_side h; done) | (intros; simp_all; done) | (intros; simp_all; omega)) ?_)
      refine WP.cond (b := false) (by simp) (fun h => by cases h) (fun _ => ?_)
      refine WP.skip (toQ.norm ?_)
      exact Wk.lessE [] (by simp) (by simp)
    · repeat refine And.intro (by first | rfl | omega | decide | (simp; done) | (simp; omega) | (intro _ h; exact fcs_side h; done) | (intros; simp_all; done) | (intros; simp_all; omega)) ?_
      refine vcStopG.call0 Try.body20 (fun _ => i2) rfl (fun _ => rfl) (fun _ => by simp) ?_
      simp -dsimp
      repeat refine And.intro (by first | rfl | omega | decide | (simp; done) | (simp; omega) | (intro _ h; exact fcs_side h; done) | (intros; simp_all; done) | (intros; simp_all; omega)) ?_
      cases pb
      · repeat refine And.intro (by first | rfl | omega | decide | (simp; done) | (simp; omega) | (intro _ h; exact fcs_side h; done) | (intros; simp_all; done) | (intros; simp_all; omega)) ?_
        refine vcStopG.skip (.d (.v (.bool false))) ?_
        simp -dsimp
        repeat refine And.intro (by first | rfl | omega | decide | (simp; done) | (simp; omega) | (intro _ h; exact fcs_side h; done) | (intros; simp_all; done) | (intros; simp_all; omega)) ?_
        refine vcStopG.call0 Try.body21 (fun _ => kt) rfl (fun _ => rfl) (fun _ => by simp) ?_
        simp -dsimp
        repeat (first | refine WP.seq ?_ | refine WP.block ?_ | (refine WP.region Try.tab ?_; simp -dsimp) | (refine WP.draw Try.tab Try.mixed ?_; simp -dsimp) | refine And.intro (by first | rfl | omega | decide | (simp; done) | (simp; omega) | (intro _ h; exact fcs_side h; done) | (intros; simp_all; done) | (intros; simp_all; omega)) ?_)
        refine WP.cond (b := false) (by simp) (fun h => by cases h) (fun _ => ?_)
        refine WP.skip (toQ.norm ?_)
        exact Wk.lessE [] (by simp) (by simp)
      · repeat refine And.intro (by first | rfl | omega | decide | (simp; done) | (simp; omega) | (intro _ h; exact fcs_side h; done) | (intros; simp_all; done) | (intros; simp_all; omega)) ?_
        refine vcStopG.call0 Try.body20 (fun _ => hin rfl rfl) rfl (fun _ => rfl) (fun _ => by simp) ?_
        simp -dsimp
        repeat refine And.intro (by first | rfl | omega | decide | (simp; done) | (simp; omega) | (intro _ h; exact fcs_side h; done) | (intros; simp_all; done) | (intros; simp_all; omega)) ?_
        refine vcStopG.call0 Try.body21 (fun _ => kt) rfl (fun _ => rfl) (fun _ => by simp) ?_
        simp -dsimp
        repeat (first | refine WP.seq ?_ | refine WP.block ?_ | (refine WP.region Try.tab ?_; simp -dsimp) | (refine WP.draw Try.tab Try.mixed ?_; simp -dsimp) | refine And.intro (by first | rfl | omega | decide | (simp; done) | (simp; omega) | (intro _ h; exact fcs_side h; done) | (intros; simp_all; done) | (intros; simp_all; omega)) ?_)
        refine WP.cond (b := false) (by simp) (fun h => by cases h) (fun _ => ?_)
        refine WP.skip (toQ.norm ?_)
        exact Wk.lessE [] (by simp) (by simp)
  refine WP.seqTo (mkS 181 [(0, .d (slS a)), (1, .d (slS b)), (4, .d (.v (.int .u64 n))), (11, .d (slS x))] []) ?_ ?_
  · repeat (first | refine WP.seq ?_ | refine WP.block ?_ | (refine WP.region Try.tab ?_; simp -dsimp) | (refine WP.draw Try.tab Try.mixed ?_; simp -dsimp) | refine And.intro (by first | rfl | omega | decide | (simp; done) | (simp; omega) | (intro _ h; exact fcs_side h; done) | (intros; simp_all; done) | (intros; simp_all; omega)) ?_)
    refine WP.loopWk (fun q S => ∃ x1 x2, x = x1 ++ x2 ∧ q = x2.length ∧ S = mkS 181 [(0, .d (slS a)), (1, .d (slS b)), (4, .d (.v (.int .u64 n))), (11, .d (slS x)), (15, .d (.v (.int .i64 x1.length)))] []) x.length
      (S0 := mkS 181 [(0, .d (slS a)), (1, .d (slS b)), (4, .d (.v (.int .u64 n))), (11, .d (slS x)), (15, .d (.v (.int .i64 0)))] []) (Wk.lessE [] (by simp) (by simp)) ⟨[], x, rfl, rfl, rfl⟩ ?_
    rintro _ _ ⟨x1, x2, hx12, rfl, rfl⟩
    simp -dsimp
    repeat (first | refine WP.seq ?_ | refine WP.block ?_ | (refine WP.region Try.tab ?_; simp -dsimp) | (refine WP.draw Try.tab Try.mixed ?_; simp -dsimp) | refine And.intro (by first | rfl | omega | decide | (simp; done) | (simp; omega) | (intro _ h; exact fcs_side h; done) | (intros; simp_all; done) | (intros; simp_all; omega)) ?_)
    cases x2 with
    | nil =>
      simp only [List.append_nil] at hx12
      subst hx12
      refine WP.cond (b := false) (by simp) (fun h => by cases h) (fun _ => ?_)
      refine WP.exit ?_
      simp -dsimp
      exact toQ.norm (Wk.lessE [] (by simp) (by simp))
    | cons u x2 =>
      have hlx : x.length = x1.length + (x2.length + 1) := by rw [hx12]; simp
      have e1 : IntKind.i64.wrap ((x1.length : Int) + 1) = (x1.length : Int) + 1 := IntWalk.i64_in _ (by omega)
      have hxu := spC_at x1 u x2
      rw [← hx12] at hxu
      obtain ⟨xa, xb⟩ := el2 hxu
      obtain ⟨hlo, hhi⟩ := hends u (by rw [hx12]; simp)
      have hlo : loA u a b = true := by
        obtain ⟨p, hp, q, hq, e⟩ := hlo
        exact List.any_eq_true.2 ⟨p, hp, List.any_eq_true.2 ⟨q, hq, decide_eq_true e⟩⟩
      have hhi : hiA u a b = true := by
        obtain ⟨p, hp, q, hq, e⟩ := hhi
        exact List.any_eq_true.2 ⟨p, hp, List.any_eq_true.2 ⟨q, hq, decide_eq_true e⟩⟩
      refine WP.cond (b := true) (by simp; omega) (fun _ => ?_) (fun h => by cases h)
      refine WP.skip ?_
      simp -dsimp
      refine WP.seq (WP.block ?_)
      repeat (first | refine WP.seq ?_ | refine WP.block ?_ | (refine WP.region Try.tab ?_; simp -dsimp) | (refine WP.draw Try.tab Try.mixed ?_; simp -dsimp) | refine And.intro (by first | rfl | omega | decide | (simp; done) | (simp; omega) | (intro _ h; exact fcs_side h; done) | (intros; simp_all; done) | (intros; simp_all; omega)) ?_)
      refine WP.loopWk (fun q S => ∃ a1 a2, a = a1 ++ a2 ∧ q = a2.length ∧ S = mkS 181 [(0, .d (slS a)), (1, .d (slS b)), (4, .d (.v (.int .u64 n))), (11, .d (slS x)), (15, .d (.v (.int .i64 x1.length))), (16, .d (.v (.bool (loA u a1 b)))), (17, .d (.v (.bool (hiA u a1 b)))), (18, .d (.v (.int .i64 a1.length)))] []) a.length
        (S0 := mkS 181 [(0, .d (slS a)), (1, .d (slS b)), (4, .d (.v (.int .u64 n))), (11, .d (slS x)), (15, .d (.v (.int .i64 x1.length))), (16, .d (.v (.bool (false)))), (17, .d (.v (.bool (false)))), (18, .d (.v (.int .i64 0)))] []) (Wk.lessE [] (by simp) (by simp)) ⟨[], a, rfl, rfl, rfl⟩ ?_
      rintro _ _ ⟨a1, a2, ha12, rfl, rfl⟩
      simp -dsimp
      repeat (first | refine WP.seq ?_ | refine WP.block ?_ | (refine WP.region Try.tab ?_; simp -dsimp) | (refine WP.draw Try.tab Try.mixed ?_; simp -dsimp) | refine And.intro (by first | rfl | omega | decide | (simp; done) | (simp; omega) | (intro _ h; exact fcs_side h; done) | (intros; simp_all; done) | (intros; simp_all; omega)) ?_)
      cases a2 with
      | nil =>
        simp only [List.append_nil] at ha12
        subst ha12
        refine WP.cond (b := false) (by simp) (fun h => by cases h) (fun _ => ?_)
        refine WP.exit ?_
        simp -dsimp
        repeat (first | refine WP.seq ?_ | refine WP.block ?_ | (refine WP.region Try.tab ?_; simp -dsimp) | (refine WP.draw Try.tab Try.mixed ?_; simp -dsimp) | refine And.intro (by first | rfl | omega | decide | (simp; done) | (simp; omega) | (intro _ h; exact fcs_side h; done) | (intros; simp_all; done) | (intros; simp_all; omega)) ?_)
        refine WP.cond (b := false) (by simp [hlo, hhi]) (fun h => by cases h) (fun _ => ?_)
        refine WP.skip ?_
        simp -dsimp
        repeat (first | refine WP.seq ?_ | refine WP.block ?_ | (refine WP.region Try.tab ?_; simp -dsimp) | (refine WP.draw Try.tab Try.mixed ?_; simp -dsimp) | refine And.intro (by first | rfl | omega | decide | (simp; done) | (simp; omega) | (intro _ h; exact fcs_side h; done) | (intros; simp_all; done) | (intros; simp_all; omega)) ?_)
        refine loopW.next (mkS 181 [(0, .d (slS a)), (1, .d (slS b)), (4, .d (.v (.int .u64 n))), (11, .d (slS x)), (15, .d (.v (.int .i64 (x1 ++ [u]).length)))] []) (Wk.lessE [] (by simp [e1]) (by simp)) x2.length (by simp) ⟨x1 ++ [u], x2, by simp [hx12], rfl, rfl⟩
      | cons p a2 =>
        have hla1 : a.length = a1.length + (a2.length + 1) := by rw [ha12]; simp
        have e2 : IntKind.i64.wrap ((a1.length : Int) + 1) = (a1.length : Int) + 1 := IntWalk.i64_in _ (by omega)
        have hap := spC_at a1 p a2
        rw [← ha12] at hap
        obtain ⟨pa1, pa2⟩ := el2 hap
        have kp := okS_isS (ka p (by rw [ha12]; simp))
        refine WP.cond (b := true) (by simp; omega) (fun _ => ?_) (fun h => by cases h)
        refine WP.skip ?_
        simp -dsimp
        refine WP.seq (WP.block ?_)
        repeat (first | refine WP.seq ?_ | refine WP.block ?_ | (refine WP.region Try.tab ?_; simp -dsimp) | (refine WP.draw Try.tab Try.mixed ?_; simp -dsimp) | refine And.intro (by first | rfl | omega | decide | (simp; done) | (simp; omega) | (intro _ h; exact fcs_side h; done) | (intros; simp_all; done) | (intros; simp_all; omega)) ?_)
        refine WP.loopWk (fun q S => ∃ b1 b2, b = b1 ++ b2 ∧ q = b2.length ∧ S = mkS 181 [(0, .d (slS a)), (1, .d (slS b)), (4, .d (.v (.int .u64 n))), (11, .d (slS x)), (15, .d (.v (.int .i64 x1.length))), (16, .d (.v (.bool (loA u a1 b || b1.any fun t => decide (p.1 + t.1 = u.1))))), (17, .d (.v (.bool (hiA u a1 b || b1.any fun t => decide (p.2 + t.2 = u.2))))), (18, .d (.v (.int .i64 a1.length))), (19, .d (.v (.int .i64 b1.length)))] []) b.length
          (S0 := mkS 181 [(0, .d (slS a)), (1, .d (slS b)), (4, .d (.v (.int .u64 n))), (11, .d (slS x)), (15, .d (.v (.int .i64 x1.length))), (16, .d (.v (.bool (loA u a1 b)))), (17, .d (.v (.bool (hiA u a1 b)))), (18, .d (.v (.int .i64 a1.length))), (19, .d (.v (.int .i64 0)))] []) (Wk.lessE [] (by simp) (by simp)) ⟨[], b, rfl, rfl, by simp⟩ ?_
        rintro _ _ ⟨b1, b2, hb12, rfl, rfl⟩
        simp -dsimp
        repeat (first | refine WP.seq ?_ | refine WP.block ?_ | (refine WP.region Try.tab ?_; simp -dsimp) | (refine WP.draw Try.tab Try.mixed ?_; simp -dsimp) | refine And.intro (by first | rfl | omega | decide | (simp; done) | (simp; omega) | (intro _ h; exact fcs_side h; done) | (intros; simp_all; done) | (intros; simp_all; omega)) ?_)
        cases b2 with
        | nil =>
          simp only [List.append_nil] at hb12
          subst hb12
          refine WP.cond (b := false) (by simp) (fun h => by cases h) (fun _ => ?_)
          refine WP.exit ?_
          simp -dsimp
          repeat (first | refine WP.seq ?_ | refine WP.block ?_ | (refine WP.region Try.tab ?_; simp -dsimp) | (refine WP.draw Try.tab Try.mixed ?_; simp -dsimp) | refine And.intro (by first | rfl | omega | decide | (simp; done) | (simp; omega) | (intro _ h; exact fcs_side h; done) | (intros; simp_all; done) | (intros; simp_all; omega)) ?_)
          refine loopW.next (mkS 181 [(0, .d (slS a)), (1, .d (slS b)), (4, .d (.v (.int .u64 n))), (11, .d (slS x)), (15, .d (.v (.int .i64 x1.length))), (16, .d (.v (.bool (loA u (a1 ++ [p]) b)))), (17, .d (.v (.bool (hiA u (a1 ++ [p]) b)))), (18, .d (.v (.int .i64 (a1 ++ [p]).length)))] []) (Wk.lessE [] (by simp [e2, loA_snoc, hiA_snoc]) (by simp)) a2.length (by simp) ⟨a1 ++ [p], a2, by simp [ha12], rfl, rfl⟩
        | cons q b2 =>
          have hlb1 : b.length = b1.length + (b2.length + 1) := by rw [hb12]; simp
          have e3 : IntKind.i64.wrap ((b1.length : Int) + 1) = (b1.length : Int) + 1 := IntWalk.i64_in _ (by omega)
          have hbq := spC_at b1 q b2
          rw [← hb12] at hbq
          obtain ⟨qb1, qb2⟩ := el2 hbq
          have kq := okS_isS (kb q (by rw [hb12]; simp))
          have w1 : IntKind.i64.wrap (p.1 + q.1) = p.1 + q.1 := IntWalk.i64_in _ (by omega)
          have w2 : IntKind.i64.wrap (p.2 + q.2) = p.2 + q.2 := IntWalk.i64_in _ (by omega)
          have hl1 : (loA u a1 b || (b1 ++ [q]).any fun t => decide (p.1 + t.1 = u.1)) = ((loA u a1 b || b1.any fun t => decide (p.1 + t.1 = u.1)) || decide (p.1 + q.1 = u.1)) := by simp [Bool.or_assoc]
          have hl2 : (hiA u a1 b || (b1 ++ [q]).any fun t => decide (p.2 + t.2 = u.2)) = ((hiA u a1 b || b1.any fun t => decide (p.2 + t.2 = u.2)) || decide (p.2 + q.2 = u.2)) := by simp [Bool.or_assoc]
          refine WP.cond (b := true) (by simp; omega) (fun _ => ?_) (fun h => by cases h)
          refine WP.skip ?_
          simp -dsimp
          refine WP.seq (WP.block ?_)
          generalize hplo : (loA u a1 b || b1.any fun t => decide (p.1 + t.1 = u.1)) = plo
          generalize hphi : (hiA u a1 b || b1.any fun t => decide (p.2 + t.2 = u.2)) = phi
          rw [hplo] at hl1
          rw [hphi] at hl2
          repeat (first | refine WP.seq ?_ | refine WP.block ?_ | (refine WP.region Try.tab ?_; simp -dsimp [hap, pa1, pa2, hbq, qb1, qb2, hxu, xa, xb, w1, w2]) | (refine WP.draw Try.tab Try.mixed ?_; simp -dsimp [hap, pa1, pa2, hbq, qb1, qb2, hxu, xa, xb, w1, w2]) | refine And.intro (by first | rfl | omega | decide | (simp; done) | (simp; omega) | (intro _ h; exact fcs_side h; done) | (intros; simp_all; done) | (intros; simp_all; omega)) ?_)
          refine loopW.next (mkS 181 [(0, .d (slS a)), (1, .d (slS b)), (4, .d (.v (.int .u64 n))), (11, .d (slS x)), (15, .d (.v (.int .i64 x1.length))), (16, .d (.v (.bool (loA u a1 b || (b1 ++ [q]).any fun t => decide (p.1 + t.1 = u.1))))), (17, .d (.v (.bool (hiA u a1 b || (b1 ++ [q]).any fun t => decide (p.2 + t.2 = u.2))))), (18, .d (.v (.int .i64 a1.length))), (19, .d (.v (.int .i64 (b1 ++ [q]).length)))] []) (Wk.lessE [] (by rw [hl1, hl2]; simp [e3, w1, w2]) (by simp)) b2.length (by simp) ⟨b1 ++ [q], b2, by simp [hb12], rfl, rfl⟩
  repeat (first | refine WP.seq ?_ | refine WP.block ?_ | (refine WP.region Try.tab ?_; simp -dsimp) | (refine WP.draw Try.tab Try.mixed ?_; simp -dsimp) | refine And.intro (by first | rfl | omega | decide | (simp; done) | (simp; omega) | (intro _ h; exact fcs_side h; done) | (intros; simp_all; done) | (intros; simp_all; omega)) ?_)
  refine WP.cond (b := decide (a = [])) (by cases a <;> simp) (fun h => ?_) (fun h => ?_)
  · have h := of_decide_eq_true h
    have hx := hnil h
    subst hx
    repeat (first | refine WP.seq ?_ | refine WP.block ?_ | (refine WP.region Try.tab ?_; simp -dsimp) | (refine WP.draw Try.tab Try.mixed ?_; simp -dsimp) | refine And.intro (by first | rfl | omega | decide | (simp; done) | (simp; omega) | (intro _ h; exact fcs_side h; done) | (intros; simp_all; done) | (intros; simp_all; omega)) ?_)
    refine WP.ret (finQ.retE ?_)
    simp -dsimp
  have hne := of_decide_eq_false h
  have hpos : 0 < a.length := List.length_pos_iff.2 hne
  obtain ⟨k, hk, w2⟩ : ∃ k : Nat, k < a.length ∧ (n : Int).tmod (a.length : Int) = (k : Int) :=
    ⟨n % a.length, Nat.mod_lt _ hpos, by rw [Int.tmod_eq_emod_of_nonneg (by omega)]; rfl⟩
  have w1 : IntKind.u64.wrap (a.length : Int) = a.length := by
    simp [IntKind.wrap, IntKind.bits, IntKind.signed]; omega
  have w3 : IntKind.i64.wrap (k : Int) = (k : Int) := IntWalk.i64_in _ (by omega)
  have w4 : ((a.length : Int) - (k : Int)).toNat = a.length - k := by omega
  obtain ⟨w, hw⟩ : ∃ w, a[k] = w := ⟨_, rfl⟩
  have hak : a = a.take k ++ w :: a.drop (k + 1) := by rw [← hw, List.getElem_cons_drop, List.take_append_drop]
  have htk : (a.take k).length = k := by rw [List.length_take]; omega
  have h1 := spC_at (a.take k) w (a.drop (k + 1))
  rw [← hak, htk] at h1
  clear hak
  have h2 := spC_drop a k
  rw [h2] at h1
  have h3 := spC_take a k
  have h4 : (spC (a.drop k)).take ((a.length - k) * 2) = spC (a.drop k) := List.take_of_length_le (by rw [spC_length, List.length_drop]; exact Nat.le_refl _)
  refine WP.skip ?_
  simp -dsimp [w1, w2, w3, w4]
  repeat (first | refine WP.seq ?_ | refine WP.block ?_ | (refine WP.region Try.tab ?_; simp -dsimp [w1, w2, w3, w4, h1, h2, h3, h4]) | (refine WP.draw Try.tab Try.mixed ?_; simp -dsimp [w1, w2, w3, w4, h1, h2, h3, h4]) | refine And.intro (by first | rfl | omega | decide | (simp; done) | (simp; omega) | (intro _ h; exact fcs_side h; done) | (intros; simp_all; done) | (intros; simp_all; omega)) ?_)
  have hrot := hsame (a.drop k ++ a.take k ++ [w]) (by rw [← hw]; exact turned_mem a hk) (by simp; omega) rfl
  clear hw
  have r3 := add_ok (a.drop k ++ a.take k ++ [w]) b
  rw [hrot] at r3
  have h13 : Fun Try.prog 13 [.row 1000, .d (slS b)] [(1000, .row 37 2 (a.drop k ++ a.take k ++ [w]).length ((spC (a.drop k ++ a.take k ++ [w])).map .d))] (.d (resD (x, 0))) [] fun _ => False :=
    Fun.ofRow 1000 (T := 37) (cs := spC (a.drop k ++ a.take k ++ [w])) r3 rfl rfl trivial
  have hlen : a.length - k + k + 1 = a.length - k + (min k a.length + 1) := by omega
  refine vcStop.call Try.body13 (h13) (rl [(1000, 169)]) rfl rfl (by simp [h1, h2, h3, h4, w3, w4, hlen, BoxLeq]) (CallOk.of (by simp [h1, h2, h3, h4, w3, w4, hlen, BoxLeq]) rfl (by first | rfl | (simp [h1, h2, h3, h4, w3, w4, hlen, BoxLeq]; done)) (by simp [h1, h2, h3, h4, w3, w4, hlen, BoxLeq]) (by simp [h1, h2, h3, h4, w3, w4, hlen, BoxLeq])) (fun _ h => h.elim) (fun ⟨_, h⟩ => h.elim) (fun ⟨_, h⟩ => h.elim) (by simp [h1, h2, h3, h4, w3, w4, hlen, BoxLeq]) ?_
  simp -dsimp
  repeat (first | refine WP.seq ?_ | refine WP.block ?_ | (refine WP.region Try.tab ?_; simp -dsimp) | (refine WP.draw Try.tab Try.mixed ?_; simp -dsimp) | refine And.intro (by first | rfl | omega | decide | (simp; done) | (simp; omega) | (intro _ h; exact fcs_side h; done) | (intros; simp_all; done) | (intros; simp_all; omega)) ?_)
  refine vcStopG.call0 Try.body17 (fun _ => sameT rfl kx) rfl (fun _ => rfl) (fun _ => by simp) ?_
  simp -dsimp
  repeat refine And.intro (by first | rfl | omega | decide | (simp; done) | (simp; omega) | (intro _ h; exact fcs_side h; done) | (intros; simp_all; done) | (intros; simp_all; omega)) ?_
  repeat (first | refine WP.seq ?_ | refine WP.block ?_ | (refine WP.region Try.tab ?_; simp -dsimp) | (refine WP.draw Try.tab Try.mixed ?_; simp -dsimp) | refine And.intro (by first | rfl | omega | decide | (simp; done) | (simp; omega) | (intro _ h; exact fcs_side h; done) | (intros; simp_all; done) | (intros; simp_all; omega)) ?_)
  refine WP.ret (finQ.retE ?_)
  simp -dsimp
end Go.Proofs.Ytphbappgmoojeaa
