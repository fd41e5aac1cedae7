/-
  Spans: the library's Grow and Concat.
-/
import Derived.Test.YtphbappgmoojeaaKHi
import Derived.Test.YtphbappgmoojeaaK8
set_option linter.unusedSectionVars false
set_option linter.unusedSimpArgs false
set_option linter.unusedVariables false
namespace Go.Proofs.Ytphbappgmoojeaa
open Go.Xe Go.RowKit

@[simp] theorem hasL_any (k n : Nat) : AV.hasL k (List.replicate n (.d .any)) = false := by
  induction n with
  | zero => rfl
  | succ n ih => rw [List.replicate_succ, AV.hasL, ih]; rfl
set_option maxRecDepth 10000 in
theorem grow_ok (n : Nat) (hn : n ≤ 1000000) : Fun Try.prog 55 [.d (.v (.slice none 0 0)), .d (.v (.int .i64 n))] [] (.row 0) [(0, .row 37 2 0 [])] fun _ => False := by
  have e0 : IntKind.i64.wrap 0 = 0 := by decide
  have e1 : IntKind.i64.wrap (n : Int) = n := IntWalk.i64_in _ (by omega)
  refine Fun.of_wp (pn := noPn) Try.tab Try.func55 rfl fun β0 => ?_
  simp only [Try.f55]
  repeat (first | refine WP.seq ?_ | refine WP.block ?_ | (refine WP.region Try.tab ?_; simp -dsimp) | (refine WP.draw Try.tab Try.mixed ?_; simp -dsimp) | refine And.intro (by first | rfl | omega | decide | (simp; done) | (simp; omega) | (intro _ h; exact fcs_side h; done) | (intros; simp_all; done)) ?_)
  refine WP.cond (b := false) (by simp) (fun h => by cases h) (fun _ => ?_)
  refine WP.skip ?_
  simp -dsimp
  repeat (first | refine WP.seq ?_ | refine WP.block ?_ | (refine WP.region Try.tab ?_; simp -dsimp) | (refine WP.draw Try.tab Try.mixed ?_; simp -dsimp) | refine And.intro (by first | rfl | omega | decide | (simp; done) | (simp; omega) | (intro _ h; exact fcs_side h; done) | (intros; simp_all; done)) ?_)
  refine vcStop.capNil Try.tab rfl rfl rfl ?_
  simp -dsimp [e0, e1]
  repeat (first | refine WP.seq ?_ | refine WP.block ?_ | (refine WP.region Try.tab ?_; simp -dsimp [e0, e1]) | (refine WP.draw Try.tab Try.mixed ?_; simp -dsimp [e0, e1]) | refine And.intro (by first | rfl | omega | decide | (simp; done) | (simp; omega) | (intro _ h; exact fcs_side h; done) | (intros; simp_all; done)) ?_)
  refine WP.cond (b := decide (0 < n)) (by simp) (fun hb => ?_) (fun hb => ?_)
  · have hb : 0 < n := of_decide_eq_true hb
    repeat (first | refine WP.seq ?_ | refine WP.block ?_ | (refine WP.region Try.tab ?_; simp -dsimp) | (refine WP.draw Try.tab Try.mixed ?_; simp -dsimp) | refine And.intro (by first | rfl | omega | decide | (simp; done) | (simp; omega) | (intro _ h; exact fcs_side h; done) | (intros; simp_all; done)) ?_)
    refine vcStop.capNil Try.tab rfl rfl rfl ?_
    simp -dsimp
    repeat refine And.intro (by first | rfl | omega | decide | (simp; done) | (simp; omega) | (intro _ h; exact fcs_side h; done) | (intros; simp_all; done)) ?_
    refine vcStop.sliceNil Try.tab rfl rfl rfl rfl rfl ?_
    simp -dsimp
    repeat refine And.intro (by first | rfl | omega | decide | (simp; done) | (simp; omega) | (intro _ h; exact fcs_side h; done) | (intros; simp_all; done)) ?_
    refine vcStop.appendNilZ Try.tab (k := 500) rfl rfl rfl rfl (by decide) rfl hb rfl (by simp; omega) (by simp) ?_
    simp -dsimp
    repeat refine And.intro (by first | rfl | omega | decide | (simp; done) | (simp; omega) | (intro _ h; exact fcs_side h; done) | (intros; simp_all; done)) ?_
    refine vcStop.sliceRow Try.tab (j := 500) (k := 501) (m := 0) rfl rfl rfl rfl rfl hb (Nat.zero_le _) rfl (by simp) ?_
    simp -dsimp
    repeat (first | refine WP.seq ?_ | refine WP.block ?_ | (refine WP.region Try.tab ?_; simp -dsimp) | (refine WP.draw Try.tab Try.mixed ?_; simp -dsimp) | refine And.intro (by first | rfl | omega | decide | (simp; done) | (simp; omega) | (intro _ h; exact fcs_side h; done) | (intros; simp_all; done)) ?_)
    refine WP.ret (finQ.retWE (S' := mkS 27 [(4, .row 0)] [(0, .row 37 2 0 [])]) (Wk.go [] 501 0 (by decide) (by simp) (by simp) (by simp)) ?_)
    simp -dsimp
  · refine WP.skip ?_
    simp -dsimp
    repeat (first | refine WP.seq ?_ | refine WP.block ?_ | (refine WP.region Try.tab ?_; simp -dsimp) | (refine WP.draw Try.tab Try.mixed ?_; simp -dsimp) | refine And.intro (by first | rfl | omega | decide | (simp; done) | (simp; omega) | (intro _ h; exact fcs_side h; done) | (intros; simp_all; done)) ?_)
    refine WP.ret (finQ.retWE (S' := mkS 27 [(4, .row 0)] [(0, .row 37 2 0 [])]) ((Wk.nilSlot 4 0 37 2 (by simp) (by simp)).trans (Wk.lessE [] (by simp) (by simp))) ?_)
    simp -dsimp
def catL : List (List Sp) → List Sp
  | [] => []
  | l :: r => l ++ catL r
theorem catL_append : ∀ a b : List (List Sp), catL (a ++ b) = catL a ++ catL b
  | [], _ => rfl
  | l :: a, b => by rw [List.cons_append, catL, catL, catL_append a b, List.append_assoc]
theorem catL_snoc (a : List (List Sp)) (l : List Sp) : catL (a ++ [l]) = catL a ++ l := by rw [catL_append]; simp [catL]
theorem flat_len (a b : List (List Sp)) : (catL (a ++ b)).length = (catL a).length + (catL b).length := by rw [catL_append, List.length_append]
set_option maxRecDepth 10000 in
set_option maxHeartbeats 4000000 in
theorem concat_ok (ls : List (List Sp)) (hl : ls.length ≤ 1000) (hf : (catL ls).length ≤ 1000000) : Fn0 Try.prog 43 [slL ls] (slS (catL ls)) := by
  refine Fun.of_wp (pn := noPn) Try.tab Try.func43 rfl fun β0 => ?_
  simp only [Try.f43]
  repeat (first | refine WP.seq ?_ | refine WP.block ?_ | (refine WP.region Try.tab ?_; simp -dsimp) | (refine WP.draw Try.tab Try.mixed ?_; simp -dsimp) | refine And.intro (by first | rfl | omega | decide | (simp; done) | (simp; omega) | (intro _ h; exact fcs_side h; done) | (intros; simp_all; done)) ?_)
  refine WP.loopWk (fun m S => ∃ l1 l2, ls = l1 ++ l2 ∧ m = l2.length ∧ S = mkS 36 [(0, .d (slL ls)), (3, .d (.v (.int .i64 (catL l1).length))), (9, .d (slL ls)), (10, .d (.v (.int .i64 ls.length))), (11, .d (.v (.int .i64 l1.length)))] []) ls.length
    (S0 := mkS 36 [(0, .d (slL ls)), (3, .d (.v (.int .i64 0))), (9, .d (slL ls)), (10, .d (.v (.int .i64 ls.length))), (11, .d (.v (.int .i64 0)))] []) (Wk.lessE [] (by simp) (by simp)) ⟨[], ls, rfl, rfl, rfl⟩ ?_
  rintro _ _ ⟨l1, l2, hl12, rfl, rfl⟩
  simp -dsimp
  repeat (first | refine WP.seq ?_ | refine WP.block ?_ | (refine WP.region Try.tab ?_; simp -dsimp) | (refine WP.draw Try.tab Try.mixed ?_; simp -dsimp) | refine And.intro (by first | rfl | omega | decide | (simp; done) | (simp; omega) | (intro _ h; exact fcs_side h; done) | (intros; simp_all; done)) ?_)
  cases l2 with
  | cons l l2 =>
    have hll : ls.length = l1.length + (l2.length + 1) := by rw [hl12]; simp
    have hff : (catL ls).length = (catL l1).length + (l.length + (catL l2).length) := by rw [hl12, flat_len, catL, List.length_append]
    have e1 : IntKind.i64.wrap ((l1.length : Int) + 1) = (l1.length : Int) + 1 := IntWalk.i64_in _ (by omega)
    have e2 : IntKind.i64.wrap (((catL l1).length : Int) + l.length) = ((catL l1).length : Int) + l.length := IntWalk.i64_in _ (by omega)
    have e3 : (catL (l1 ++ [l])).length = (catL l1).length + l.length := by rw [catL_snoc, List.length_append]
    have h1 := lsC_at l1 l l2
    rw [← hl12] at h1
    refine WP.cond (b := true) (by simp; omega) (fun _ => ?_) (fun h => by cases h)
    refine WP.skip ?_
    simp -dsimp
    refine WP.seq (WP.block ?_)
    repeat (first | refine WP.seq ?_ | refine WP.block ?_ | (refine WP.region Try.tab ?_; simp -dsimp [h1, e2]) | (refine WP.draw Try.tab Try.mixed ?_; simp -dsimp [h1, e2]) | refine And.intro (by first | rfl | omega | decide | (simp; done) | (simp; omega) | (intro _ h; exact fcs_side h; done) | (intros; simp_all; done)) ?_)
    refine WP.cond (b := false) (by simp [e2]; omega) (fun h => by cases h) (fun _ => ?_)
    refine WP.skip ?_
    simp -dsimp
    repeat (first | refine WP.seq ?_ | refine WP.block ?_ | (refine WP.region Try.tab ?_; simp -dsimp) | (refine WP.draw Try.tab Try.mixed ?_; simp -dsimp) | refine And.intro (by first | rfl | omega | decide | (simp; done) | (simp; omega) | (intro _ h; exact fcs_side h; done) | (intros; simp_all; done)) ?_)
    refine loopW.next (mkS 36 [(0, .d (slL ls)), (3, .d (.v (.int .i64 (catL (l1 ++ [l])).length))), (9, .d (slL ls)), (10, .d (.v (.int .i64 ls.length))), (11, .d (.v (.int .i64 (l1 ++ [l]).length)))] []) (Wk.lessE [] (by simp [e1, e2, e3]) (by simp)) l2.length (by simp) ⟨l1 ++ [l], l2, by simp [hl12], rfl, rfl⟩
  | nil =>
    simp only [List.append_nil] at hl12
    subst hl12
    refine WP.cond (b := false) (by simp) (fun h => by cases h) (fun _ => ?_)
    refine WP.exit ?_
    simp -dsimp
    repeat (first | refine WP.seq ?_ | refine WP.block ?_ | (refine WP.region Try.tab ?_; simp -dsimp) | (refine WP.draw Try.tab Try.mixed ?_; simp -dsimp) | refine And.intro (by first | rfl | omega | decide | (simp; done) | (simp; omega) | (intro _ h; exact fcs_side h; done) | (intros; simp_all; done)) ?_)
    refine vcStop.call Try.body55 (grow_ok (catL ls).length hf) (rl [(0, 600)]) rfl rfl (by simp [BoxLeq]) (CallOk.of (by simp [BoxLeq]) rfl (by first | rfl | (simp [BoxLeq]; done)) (by simp [BoxLeq]) (by simp [BoxLeq])) (fun _ h => h.elim) (fun ⟨_, h⟩ => h.elim) (fun ⟨_, h⟩ => h.elim) (by simp [BoxLeq]) ?_
    simp -dsimp
    repeat (first | refine WP.seq ?_ | refine WP.block ?_ | (refine WP.region Try.tab ?_; simp -dsimp) | (refine WP.draw Try.tab Try.mixed ?_; simp -dsimp) | refine And.intro (by first | rfl | omega | decide | (simp; done) | (simp; omega) | (intro _ h; exact fcs_side h; done) | (intros; simp_all; done)) ?_)
    refine WP.loopWk (fun m S => ∃ l1 l2, ls = l1 ++ l2 ∧ m = l2.length ∧ S = mkS 36 [(6, .row 500), (25, .d (slL ls)), (26, .d (.v (.int .i64 ls.length))), (27, .d (.v (.int .i64 l1.length)))] [(500, .row 37 2 (catL l1).length ((spC (catL l1)).map .d))]) ls.length
      (S0 := mkS 36 [(6, .row 500), (25, .d (slL ls)), (26, .d (.v (.int .i64 ls.length))), (27, .d (.v (.int .i64 0)))] [(500, .row 37 2 0 [])]) (Wk.go [] 600 500 (by decide) (by simp) (by simp) (by simp)) ⟨[], ls, rfl, rfl, rfl⟩ ?_
    rintro _ _ ⟨l1, l2, hl12, rfl, rfl⟩
    simp -dsimp
    repeat (first | refine WP.seq ?_ | refine WP.block ?_ | (refine WP.region Try.tab ?_; simp -dsimp) | (refine WP.draw Try.tab Try.mixed ?_; simp -dsimp) | refine And.intro (by first | rfl | omega | decide | (simp; done) | (simp; omega) | (intro _ h; exact fcs_side h; done) | (intros; simp_all; done)) ?_)
    cases l2 with
    | cons l l2 =>
      have hll : ls.length = l1.length + (l2.length + 1) := by rw [hl12]; simp
      have hff : (catL ls).length = (catL l1).length + (l.length + (catL l2).length) := by rw [hl12, flat_len, catL, List.length_append]
      have e1 : IntKind.i64.wrap ((l1.length : Int) + 1) = (l1.length : Int) + 1 := IntWalk.i64_in _ (by omega)
      have e3 : (catL (l1 ++ [l])) = (catL l1) ++ l := catL_snoc l1 l
      have h1 := lsC_at l1 l l2
      rw [← hl12] at h1
      refine WP.cond (b := true) (by simp; omega) (fun _ => ?_) (fun h => by cases h)
      refine WP.skip ?_
      simp -dsimp
      refine WP.seq (WP.block ?_)
      repeat (first | refine WP.seq ?_ | refine WP.block ?_ | (refine WP.region Try.tab ?_; simp -dsimp [h1]) | (refine WP.draw Try.tab Try.mixed ?_; simp -dsimp [h1]) | refine And.intro (by first | rfl | omega | decide | (simp; done) | (simp; omega) | (intro _ h; exact fcs_side h; done) | (intros; simp_all; done)) ?_)
      refine loopW.next (mkS 36 [(6, .row 500), (25, .d (slL ls)), (26, .d (.v (.int .i64 ls.length))), (27, .d (.v (.int .i64 (l1 ++ [l]).length)))] [(500, .row 37 2 (catL (l1 ++ [l])).length ((spC (catL (l1 ++ [l]))).map .d))]) (Wk.go [] 33 500 (by decide) (by simp) (by simp [e1]) (by simp [e3])) l2.length (by simp) ⟨l1 ++ [l], l2, by simp [hl12], rfl, rfl⟩
    | nil =>
      simp only [List.append_nil] at hl12
      subst hl12
      refine WP.cond (b := false) (by simp) (fun h => by cases h) (fun _ => ?_)
      refine WP.exit ?_
      simp -dsimp
      repeat (first | refine WP.seq ?_ | refine WP.block ?_ | (refine WP.region Try.tab ?_; simp -dsimp) | (refine WP.draw Try.tab Try.mixed ?_; simp -dsimp) | refine And.intro (by first | rfl | omega | decide | (simp; done) | (simp; omega) | (intro _ h; exact fcs_side h; done) | (intros; simp_all; done)) ?_)
      refine WP.ret (finQ.retWE (Wk.freeze (k := 500) (T := 37) (sz := 2) (n := (catL ls).length) (ds := spC (catL ls)) (by simp)) ?_)
      simp -dsimp
theorem concat2_ok (a b : List Sp) (h : a.length + b.length ≤ 1000000) : Fun Try.prog 43 [.row 1000] [(1000, .row 22 1 2 [.d (slS a), .d (slS b)])] (.d (slS (a ++ b))) [] fun _ => False := by
  have h := Fun.ofRow 1000 (T := 22) (cs := [slS a, slS b]) (args' := [.row 1000]) (bi' := [(1000, .row 22 1 2 [.d (slS a), .d (slS b)])]) (concat_ok [a, b] (by simp) (by simpa [catL] using h)) rfl rfl trivial
  simpa [catL] using h

/-- Union. -/
def bothR (a b : List Sp) (r : List Sp × Int) : List Sp × Int := if chkLs [a, b] = 0 then r else ([], chkLs [a, b])
theorem chk2_zero {a b : List Sp} (h : chkLs [a, b] = 0) : (a.length ≤ 4096 ∧ ∀ s ∈ a, okS s = true) ∧ b.length ≤ 4096 ∧ ∀ s ∈ b, okS s = true := by
  rw [chkLs, chkLs, chkLs] at h
  split at h
  · rename_i h1
    split at h
    · rename_i h2
      exact ⟨chkL_zero.1 h1, chkL_zero.1 h2⟩
    · contradiction
  · contradiction
def unionR (a b : List Sp) : List Sp × Int := bothR a b (limL (tidyR (a ++ b)))
theorem union_ok (a b : List Sp) : Fn0 Try.prog 25 [slS a, slS b] (resD (unionR a b)) := by
  refine Fun.of_wp (pn := noPn) Try.tab Try.func25 rfl fun β0 => ?_
  simp only [Try.f25]
  repeat (first | refine WP.seq ?_ | refine WP.block ?_ | (refine WP.region Try.tab ?_; simp -dsimp) | (refine WP.draw Try.tab Try.mixed ?_; simp -dsimp) | refine And.intro (by first | rfl | omega | decide | (simp; done) | (simp; omega) | (intro _ h; exact fcs_side h; done) | (intros; simp_all; done)) ?_)
  refine vcStop.call Try.body32 (check2_ok a b) (rl [(1000, 8)]) rfl rfl (by simp [BoxLeq]) (CallOk.of (by simp [BoxLeq]) rfl (by first | rfl | (simp [BoxLeq]; done)) (by simp [BoxLeq]) (by simp [BoxLeq])) (fun _ h => h.elim) (fun ⟨_, h⟩ => h.elim) (fun ⟨_, h⟩ => h.elim) (by simp [BoxLeq]) ?_
  simp -dsimp
  repeat (first | refine WP.seq ?_ | refine WP.block ?_ | (refine WP.region Try.tab ?_; simp -dsimp) | (refine WP.draw Try.tab Try.mixed ?_; simp -dsimp) | refine And.intro (by first | rfl | omega | decide | (simp; done) | (simp; omega) | (intro _ h; exact fcs_side h; done) | (intros; simp_all; done)) ?_)
  refine WP.cond (b := !decide (chkLs [a, b] = 0)) (by simp) (fun hb => ?_) (fun hb => ?_)
  · have hb : ¬ chkLs [a, b] = 0 := by simpa using hb
    repeat (first | refine WP.seq ?_ | refine WP.block ?_ | (refine WP.region Try.tab ?_; simp -dsimp) | (refine WP.draw Try.tab Try.mixed ?_; simp -dsimp) | refine And.intro (by first | rfl | omega | decide | (simp; done) | (simp; omega) | (intro _ h; exact fcs_side h; done) | (intros; simp_all; done)) ?_)
    refine WP.ret (finQ.retE ?_)
    simp -dsimp [unionR, bothR, hb]
  · have hb : chkLs [a, b] = 0 := by simpa using hb
    obtain ⟨⟨a1, a2⟩, b1, b2⟩ := chk2_zero hb
    refine WP.skip ?_
    simp -dsimp
    repeat (first | refine WP.seq ?_ | refine WP.block ?_ | (refine WP.region Try.tab ?_; simp -dsimp) | (refine WP.draw Try.tab Try.mixed ?_; simp -dsimp) | refine And.intro (by first | rfl | omega | decide | (simp; done) | (simp; omega) | (intro _ h; exact fcs_side h; done) | (intros; simp_all; done)) ?_)
    refine vcStop.call Try.body43 (concat2_ok a b (by omega)) (rl [(1000, 15)]) rfl rfl (by simp [BoxLeq]) (CallOk.of (by simp [BoxLeq]) rfl (by first | rfl | (simp [BoxLeq]; done)) (by simp [BoxLeq]) (by simp [BoxLeq])) (fun _ h => h.elim) (fun ⟨_, h⟩ => h.elim) (fun ⟨_, h⟩ => h.elim) (by simp [BoxLeq]) ?_
    simp -dsimp
    repeat refine And.intro (by first | rfl | omega | decide | (simp; done) | (simp; omega) | (intro _ h; exact fcs_side h; done) | (intros; simp_all; done)) ?_
    refine vcStop.call0 Try.body33 (tidy_ok (a ++ b) (by simp; omega) (fun s h => by rcases List.mem_append.1 h with h | h; exact a2 s h; exact b2 s h)) rfl rfl (by simp) ?_
    simp -dsimp
    repeat refine And.intro (by first | rfl | omega | decide | (simp; done) | (simp; omega) | (intro _ h; exact fcs_side h; done) | (intros; simp_all; done)) ?_
    refine vcStop.call0 Try.body35 (limited_ok (tidyR (a ++ b))) rfl rfl (by simp) ?_
    simp -dsimp
    repeat (first | refine WP.seq ?_ | refine WP.block ?_ | (refine WP.region Try.tab ?_; simp -dsimp) | (refine WP.draw Try.tab Try.mixed ?_; simp -dsimp) | refine And.intro (by first | rfl | omega | decide | (simp; done) | (simp; omega) | (intro _ h; exact fcs_side h; done) | (intros; simp_all; done)) ?_)
    refine WP.ret (finQ.retE ?_)
    simp -dsimp [unionR, bothR, hb]
theorem refUnion_ok (a b : List Sp) : Fn0 Try.prog 26 [slS a, slS b] (resD (unionR a b)) := by
  refine Fun.of_wp (pn := noPn) Try.tab Try.func26 rfl fun β0 => ?_
  simp only [Try.f26]
  repeat (first | refine WP.seq ?_ | refine WP.block ?_ | (refine WP.region Try.tab ?_; simp -dsimp) | (refine WP.draw Try.tab Try.mixed ?_; simp -dsimp) | refine And.intro (by first | rfl | omega | decide | (simp; done) | (simp; omega) | (intro _ h; exact fcs_side h; done) | (intros; simp_all; done)) ?_)
  refine vcStop.call0 Try.body36 (both2_ok a b) rfl rfl (by simp) ?_
  simp -dsimp
  repeat (first | refine WP.seq ?_ | refine WP.block ?_ | (refine WP.region Try.tab ?_; simp -dsimp) | (refine WP.draw Try.tab Try.mixed ?_; simp -dsimp) | refine And.intro (by first | rfl | omega | decide | (simp; done) | (simp; omega) | (intro _ h; exact fcs_side h; done) | (intros; simp_all; done)) ?_)
  refine WP.cond (b := !decide (chkLs [a, b] = 0)) (by simp) (fun hb => ?_) (fun hb => ?_)
  · have hb : ¬ chkLs [a, b] = 0 := by simpa using hb
    repeat (first | refine WP.seq ?_ | refine WP.block ?_ | (refine WP.region Try.tab ?_; simp -dsimp) | (refine WP.draw Try.tab Try.mixed ?_; simp -dsimp) | refine And.intro (by first | rfl | omega | decide | (simp; done) | (simp; omega) | (intro _ h; exact fcs_side h; done) | (intros; simp_all; done)) ?_)
    refine WP.ret (finQ.retE ?_)
    simp -dsimp [unionR, bothR, hb]
  · have hb : chkLs [a, b] = 0 := by simpa using hb
    obtain ⟨⟨a1, a2⟩, b1, b2⟩ := chk2_zero hb
    have h37 : Fun Try.prog 37 [.row 1000] [(1000, .row 37 2 (a ++ b).length ((spC (a ++ b)).map .d))] (.d (slS (tidyR (a ++ b)))) [] fun _ => False :=
      Fun.ofRow 1000 (T := 37) (cs := spC (a ++ b)) (refTidy_ok (a ++ b) (by simp; omega) (fun s h => by rcases List.mem_append.1 h with h | h; exact a2 s h; exact b2 s h)) rfl rfl trivial
    refine WP.skip ?_
    simp -dsimp
    repeat (first | refine WP.seq ?_ | refine WP.block ?_ | (refine WP.region Try.tab ?_; simp -dsimp) | (refine WP.draw Try.tab Try.mixed ?_; simp -dsimp) | refine And.intro (by first | rfl | omega | decide | (simp; done) | (simp; omega) | (intro _ h; exact fcs_side h; done) | (intros; simp_all; done)) ?_)
    refine vcStop.call Try.body37 (h37) (rl [(1000, 17)]) rfl rfl (by simp [BoxLeq]) (CallOk.of (by simp [BoxLeq]) rfl (by first | rfl | (simp [BoxLeq]; done)) (by simp [BoxLeq]) (by simp [BoxLeq])) (fun _ h => h.elim) (fun ⟨_, h⟩ => h.elim) (fun ⟨_, h⟩ => h.elim) (by simp [BoxLeq]) ?_
    simp -dsimp
    repeat refine And.intro (by first | rfl | omega | decide | (simp; done) | (simp; omega) | (intro _ h; exact fcs_side h; done) | (intros; simp_all; done)) ?_
    refine vcStop.call0 Try.body39 (refLimited_ok (tidyR (a ++ b))) rfl rfl (by simp) ?_
    simp -dsimp
    repeat (first | refine WP.seq ?_ | refine WP.block ?_ | (refine WP.region Try.tab ?_; simp -dsimp) | (refine WP.draw Try.tab Try.mixed ?_; simp -dsimp) | refine And.intro (by first | rfl | omega | decide | (simp; done) | (simp; omega) | (intro _ h; exact fcs_side h; done) | (intros; simp_all; done)) ?_)
    refine WP.ret (finQ.retE ?_)
    simp -dsimp [unionR, bothR, hb]
end Go.Proofs.Ytphbappgmoojeaa
