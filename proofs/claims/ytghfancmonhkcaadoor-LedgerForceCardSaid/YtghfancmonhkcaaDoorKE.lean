/-
  Joined texts.
-/
import Derived.Test.YtghfancmonhkcaaDoorKKe
set_option linter.unusedVariables false
set_option linter.unusedSimpArgs false
set_option linter.unusedSectionVars false
/-
  Ledgers: the set of a list of facts.
-/
set_option linter.unusedSimpArgs false
set_option linter.unusedVariables false
namespace Go.Proofs.YtghfancmonhkcaaDoor
open Go.Xe Go.RowKit

abbrev nilD : D := .v (.slice none 0 0)
/-- A list's facts in order, each once. -/
def setF (l : List Fk) : List F := cmpt ((sortK l).map (·.1))
theorem sortK_len (l : List Fk) : (sortK l).length = l.length := insL_len _ _
theorem insert_nil : Fun Tryd.prog 72 [.d nilD, .d (.v (.int .i64 0)), .d (.v (.int .i64 0)), .d cmpD] [] (.tup []) [] fun _ => False := by
  refine Fun.of_wp (pn := noPn) Tryd.tab Tryd.func72 rfl fun β0 => ?_
  simp only [Tryd.f72]
  repeat (first | refine WP.seq ?_ | refine WP.block ?_ | (refine WP.region Tryd.tab ?_; simp -dsimp) | (refine WP.draw Tryd.tab Tryd.mixed ?_; simp -dsimp) | refine And.intro (by first | rfl | omega | decide | (simp; done) | (simp; omega) | (intro _ h; exact fcs_side h; done) | (intros; simp_all; done) | (intros; simp_all; omega)) ?_)
  refine WP.loopWk (fun m S => S = mkS 53 [(2, .d (.v (.int .i64 0))), (8, .d (.v (.int .i64 1)))] []) 1
    (S0 := mkS 53 [(2, .d (.v (.int .i64 0))), (8, .d (.v (.int .i64 1)))] []) (Wk.lessE [] (by simp [show IntKind.i64.wrap 1 = 1 by decide]) (by simp)) rfl ?_
  rintro _ _ rfl
  simp -dsimp
  repeat (first | refine WP.seq ?_ | refine WP.block ?_ | (refine WP.region Tryd.tab ?_; simp -dsimp) | (refine WP.draw Tryd.tab Tryd.mixed ?_; simp -dsimp) | refine And.intro (by first | rfl | omega | decide | (simp; done) | (simp; omega) | (intro _ h; exact fcs_side h; done) | (intros; simp_all; done) | (intros; simp_all; omega)) ?_)
  refine WP.cond (b := false) (by simp) (fun h => by cases h) (fun _ => ?_)
  refine WP.exit ?_
  simp -dsimp
  refine finQ.normalWE (S' := mkS 53 [] []) (Wk.lessE [] (by simp) (by simp)) ?_
  simp -dsimp
theorem stable_nil : Fun Tryd.prog 57 [.d nilD, .d (.v (.int .i64 0)), .d cmpD] [] (.tup []) [] fun _ => False := by
  refine Fun.of_wp (pn := noPn) Tryd.tab Tryd.func57 rfl fun β0 => ?_
  simp only [Tryd.f57]
  repeat (first | refine WP.seq ?_ | refine WP.block ?_ | (refine WP.region Tryd.tab ?_; simp -dsimp) | (refine WP.draw Tryd.tab Tryd.mixed ?_; simp -dsimp) | refine And.intro (by first | rfl | omega | decide | (simp; done) | (simp; omega) | (intro _ h; exact fcs_side h; done) | (intros; simp_all; done) | (intros; simp_all; omega)) ?_)
  refine WP.loopWk (fun m S => S = mkS 63 [(0, .d nilD), (1, .d (.v (.int .i64 0))), (2, .d cmpD), (6, .d (.v (.int .i64 20))), (7, .d (.v (.int .i64 0))), (8, .d (.v (.int .i64 20)))] []) 1
    (S0 := mkS 63 [(0, .d nilD), (1, .d (.v (.int .i64 0))), (2, .d cmpD), (6, .d (.v (.int .i64 20))), (7, .d (.v (.int .i64 0))), (8, .d (.v (.int .i64 20)))] []) (Wk.lessE [] (by simp) (by simp)) rfl ?_
  rintro _ _ rfl
  simp -dsimp
  repeat (first | refine WP.seq ?_ | refine WP.block ?_ | (refine WP.region Tryd.tab ?_; simp -dsimp) | (refine WP.draw Tryd.tab Tryd.mixed ?_; simp -dsimp) | refine And.intro (by first | rfl | omega | decide | (simp; done) | (simp; omega) | (intro _ h; exact fcs_side h; done) | (intros; simp_all; done) | (intros; simp_all; omega)) ?_)
  refine WP.cond (b := false) (by simp) (fun h => by cases h) (fun _ => ?_)
  refine WP.exit ?_
  simp -dsimp
  repeat (first | refine WP.seq ?_ | refine WP.block ?_ | (refine WP.region Tryd.tab ?_; simp -dsimp) | (refine WP.draw Tryd.tab Tryd.mixed ?_; simp -dsimp) | refine And.intro (by first | rfl | omega | decide | (simp; done) | (simp; omega) | (intro _ h; exact fcs_side h; done) | (intros; simp_all; done) | (intros; simp_all; omega)) ?_)
  refine vcStop.call Tryd.body72 (insert_nil) (rl []) rfl rfl (by simp [BoxLeq]) (CallOk.of (by simp [BoxLeq]) rfl (by first | rfl | (simp [BoxLeq]; done)) (by simp [BoxLeq]) (by simp [BoxLeq])) (fun _ h => h.elim) (fun ⟨_, h⟩ => h.elim) (fun ⟨_, h⟩ => h.elim) (by simp [BoxLeq]) ?_
  simp -dsimp
  repeat (first | refine WP.seq ?_ | refine WP.block ?_ | (refine WP.region Tryd.tab ?_; simp -dsimp) | (refine WP.draw Tryd.tab Tryd.mixed ?_; simp -dsimp) | refine And.intro (by first | rfl | omega | decide | (simp; done) | (simp; omega) | (intro _ h; exact fcs_side h; done) | (intros; simp_all; done) | (intros; simp_all; omega)) ?_)
  refine WP.loopWk (fun m S => S = mkS 63 [(0, .d nilD), (1, .d (.v (.int .i64 0))), (2, .d cmpD), (6, .d (.v (.int .i64 20)))] []) 1
    (S0 := mkS 63 [(0, .d nilD), (1, .d (.v (.int .i64 0))), (2, .d cmpD), (6, .d (.v (.int .i64 20)))] []) (Wk.lessE [] (by simp) (by simp)) rfl ?_
  rintro _ _ rfl
  simp -dsimp
  repeat (first | refine WP.seq ?_ | refine WP.block ?_ | (refine WP.region Tryd.tab ?_; simp -dsimp) | (refine WP.draw Tryd.tab Tryd.mixed ?_; simp -dsimp) | refine And.intro (by first | rfl | omega | decide | (simp; done) | (simp; omega) | (intro _ h; exact fcs_side h; done) | (intros; simp_all; done) | (intros; simp_all; omega)) ?_)
  refine WP.cond (b := false) (by simp) (fun h => by cases h) (fun _ => ?_)
  refine WP.exit ?_
  simp -dsimp
  refine finQ.normalWE (S' := mkS 63 [] []) (Wk.lessE [] (by simp) (by simp)) ?_
  simp -dsimp
theorem sortStable_nil : Fun Tryd.prog 44 [.d nilD, .d cmpD] [] (.tup []) [] fun _ => False := by
  refine Fun.of_wp (pn := noPn) Tryd.tab Tryd.func44 rfl fun β0 => ?_
  simp only [Tryd.f44]
  repeat (first | refine WP.seq ?_ | refine WP.block ?_ | (refine WP.region Tryd.tab ?_; simp -dsimp) | (refine WP.draw Tryd.tab Tryd.mixed ?_; simp -dsimp) | refine And.intro (by first | rfl | omega | decide | (simp; done) | (simp; omega) | (intro _ h; exact fcs_side h; done) | (intros; simp_all; done) | (intros; simp_all; omega)) ?_)
  refine vcStop.call Tryd.body57 (stable_nil) (rl []) rfl rfl (by simp [BoxLeq]) (CallOk.of (by simp [BoxLeq]) rfl (by first | rfl | (simp [BoxLeq]; done)) (by simp [BoxLeq]) (by simp [BoxLeq])) (fun _ h => h.elim) (fun ⟨_, h⟩ => h.elim) (fun ⟨_, h⟩ => h.elim) (by simp [BoxLeq]) ?_
  simp -dsimp
  refine finQ.normalWE (S' := mkS 9 [] []) (Wk.lessE [] (by simp) (by simp)) ?_
  simp -dsimp
theorem compact_nil : Fun Tryd.prog 45 [.d nilD, eqA] [(1001, cB)] (.d nilD) [(1001, cB)] fun _ => False := by
  refine Fun.of_wp (pn := noPn) Tryd.tab Tryd.func45 rfl fun β0 => ?_
  simp only [Tryd.f45]
  repeat (first | refine WP.seq ?_ | refine WP.block ?_ | (refine WP.region Tryd.tab ?_; simp -dsimp) | (refine WP.draw Tryd.tab Tryd.mixed ?_; simp -dsimp) | refine And.intro (by first | rfl | omega | decide | (simp; done) | (simp; omega) | (intro _ h; exact fcs_side h; done) | (intros; simp_all; done) | (intros; simp_all; omega)) ?_)
  refine WP.cond (b := true) (by simp) (fun _ => ?_) (fun h => by cases h)
  repeat (first | refine WP.seq ?_ | refine WP.block ?_ | (refine WP.region Tryd.tab ?_; simp -dsimp) | (refine WP.draw Tryd.tab Tryd.mixed ?_; simp -dsimp) | refine And.intro (by first | rfl | omega | decide | (simp; done) | (simp; omega) | (intro _ h; exact fcs_side h; done) | (intros; simp_all; done) | (intros; simp_all; omega)) ?_)
  refine WP.ret (finQ.retE ?_)
  simp -dsimp
theorem set_nil : Fn0 Tryd.prog 29 [nilD, cmpD] nilD := by
  refine Fun.of_wp (pn := noPn) Tryd.tab Tryd.func29 rfl fun β0 => ?_
  simp only [Tryd.f29]
  repeat (first | refine WP.seq ?_ | refine WP.block ?_ | (refine WP.region Tryd.tab ?_; simp -dsimp) | (refine WP.draw Tryd.tab Tryd.mixed ?_; simp -dsimp) | refine And.intro (by first | rfl | omega | decide | (simp; done) | (simp; omega) | (intro _ h; exact fcs_side h; done) | (intros; simp_all; done) | (intros; simp_all; omega)) ?_)
  refine vcStop.call0 Tryd.body43 clone_nil rfl rfl (by simp) ?_
  simp -dsimp
  repeat (first | refine WP.seq ?_ | refine WP.block ?_ | (refine WP.region Tryd.tab ?_; simp -dsimp) | (refine WP.draw Tryd.tab Tryd.mixed ?_; simp -dsimp) | refine And.intro (by first | rfl | omega | decide | (simp; done) | (simp; omega) | (intro _ h; exact fcs_side h; done) | (intros; simp_all; done) | (intros; simp_all; omega)) ?_)
  refine vcStop.call Tryd.body44 (sortStable_nil) (rl []) rfl rfl (by simp [BoxLeq]) (CallOk.of (by simp [BoxLeq]) rfl (by first | rfl | (simp [BoxLeq]; done)) (by simp [BoxLeq]) (by simp [BoxLeq])) (fun _ h => h.elim) (fun ⟨_, h⟩ => h.elim) (fun ⟨_, h⟩ => h.elim) (by simp [BoxLeq]) ?_
  simp -dsimp
  repeat (first | refine WP.seq ?_ | refine WP.block ?_ | (refine WP.region Tryd.tab ?_; simp -dsimp) | (refine WP.draw Tryd.tab Tryd.mixed ?_; simp -dsimp) | refine And.intro (by first | rfl | omega | decide | (simp; done) | (simp; omega) | (intro _ h; exact fcs_side h; done) | (intros; simp_all; done) | (intros; simp_all; omega)) ?_)
  refine vcStop.call Tryd.body45 (compact_nil) (rl [(1001, 3)]) rfl rfl (by simp [BoxLeq]) (CallOk.of (by simp [BoxLeq]) rfl (by first | rfl | (simp [BoxLeq]; done)) (by simp [BoxLeq]) (by simp [BoxLeq])) (fun _ h => h.elim) (fun ⟨_, h⟩ => h.elim) (fun ⟨_, h⟩ => h.elim) (by simp [BoxLeq]) ?_
  simp -dsimp
  repeat (first | refine WP.seq ?_ | refine WP.block ?_ | (refine WP.region Tryd.tab ?_; simp -dsimp) | (refine WP.draw Tryd.tab Tryd.mixed ?_; simp -dsimp) | refine And.intro (by first | rfl | omega | decide | (simp; done) | (simp; omega) | (intro _ h; exact fcs_side h; done) | (intros; simp_all; done) | (intros; simp_all; omega)) ?_)
  refine WP.ret (finQ.retE ?_)
  simp -dsimp
theorem set_ok (l : List Fk) (h0 : 0 < l.length) (hl : l.length ≤ 14) : Fun Tryd.prog 29 [.row 1000, .d cmpD] [(1000, rB (l.map (·.1)))] (.row 0) [(1000, rB (l.map (·.1))), (0, rB (setF l))] fun _ => False := by
  have hk := sortK_len l
  refine Fun.of_wp (pn := noPn) Tryd.tab Tryd.func29 rfl fun β0 => ?_
  simp only [Tryd.f29]
  repeat (first | refine WP.seq ?_ | refine WP.block ?_ | (refine WP.region Tryd.tab ?_; simp -dsimp) | (refine WP.draw Tryd.tab Tryd.mixed ?_; simp -dsimp) | refine And.intro (by first | rfl | omega | decide | (simp; done) | (simp; omega) | (intro _ h; exact fcs_side h; done) | (intros; simp_all; done) | (intros; simp_all; omega)) ?_)
  refine vcStop.call Tryd.body43 (clone_row (l.map (·.1)) (by simpa using h0) (by simpa using hl)) (rl [(0, 600)]) rfl rfl (by simp [BoxLeq]) (CallOk.of (by simp [BoxLeq]) rfl (by first | rfl | (simp [BoxLeq]; done)) (by simp [BoxLeq]) (by simp [BoxLeq])) (fun _ h => h.elim) (fun ⟨_, h⟩ => h.elim) (fun ⟨_, h⟩ => h.elim) (by simp [BoxLeq]) ?_
  simp -dsimp
  repeat (first | refine WP.seq ?_ | refine WP.block ?_ | (refine WP.region Tryd.tab ?_; simp -dsimp) | (refine WP.draw Tryd.tab Tryd.mixed ?_; simp -dsimp) | refine And.intro (by first | rfl | omega | decide | (simp; done) | (simp; omega) | (intro _ h; exact fcs_side h; done) | (intros; simp_all; done) | (intros; simp_all; omega)) ?_)
  refine vcStop.call Tryd.body44 (sortStable_ok l hl) (rl [(1000, 600)]) rfl rfl (by simp [BoxLeq]) (CallOk.of (by simp [BoxLeq]) rfl (by first | rfl | (simp [BoxLeq]; done)) (by simp [BoxLeq]) (by simp [BoxLeq])) (fun _ h => h.elim) (fun ⟨_, h⟩ => h.elim) (fun ⟨_, h⟩ => h.elim) (by simp [BoxLeq]) ?_
  simp -dsimp
  repeat (first | refine WP.seq ?_ | refine WP.block ?_ | (refine WP.region Tryd.tab ?_; simp -dsimp) | (refine WP.draw Tryd.tab Tryd.mixed ?_; simp -dsimp) | refine And.intro (by first | rfl | omega | decide | (simp; done) | (simp; omega) | (intro _ h; exact fcs_side h; done) | (intros; simp_all; done) | (intros; simp_all; omega)) ?_)
  refine vcStop.call Tryd.body45 (compact_ok ((sortK l).map (·.1)) (by simp; omega) (fun f hf => by obtain ⟨x, _, rfl⟩ := List.mem_map.1 hf; exact x.2)) (rl [(1000, 600), (1001, 3), (0, 700)]) rfl rfl (by simp [hk, BoxLeq]) (CallOk.of (by simp [hk, BoxLeq]) rfl (by first | rfl | (simp [hk, BoxLeq]; done)) (by simp [hk, BoxLeq]) (by simp [hk, BoxLeq])) (fun _ h => h.elim) (fun ⟨_, h⟩ => h.elim) (fun ⟨_, h⟩ => h.elim) (by simp [hk, BoxLeq]) ?_
  simp -dsimp
  repeat (first | refine WP.seq ?_ | refine WP.block ?_ | (refine WP.region Tryd.tab ?_; simp -dsimp) | (refine WP.draw Tryd.tab Tryd.mixed ?_; simp -dsimp) | refine And.intro (by first | rfl | omega | decide | (simp; done) | (simp; omega) | (intro _ h; exact fcs_side h; done) | (intros; simp_all; done) | (intros; simp_all; omega)) ?_)
  refine WP.ret (finQ.retWE (S' := mkS 13 [(4, .row 0)] [(1000, rB (l.map (·.1))), (0, rB (setF l))]) (Wk.go [] 700 0 (by decide) (by simp) (by simp) (by simp [setF])) ?_)
  simp -dsimp
end Go.Proofs.YtghfancmonhkcaaDoor

/-
  Ledgers: the valid facts.
-/
set_option linter.unusedSimpArgs false
set_option linter.unusedVariables false
namespace Go.Proofs.YtghfancmonhkcaaDoor
open Go.Xe Go.RowKit

/-- A signed fact: a fact's cells, and four more. -/
abbrev Sg := F × List D
def sgC (l : List Sg) : List D := l.flatMap fun p => fcs p.1 0 57 ++ p.2
def sgOk (p : Sg) : Prop := fOk p.1 ∧ p.2.length = 4 ∧ ∀ d ∈ p.2, oneD d = true
@[simp] def sgD (l : List Sg) (b : Bool) : D := .sl 61 (sgC l) l.length b
@[simp] def lgD (l : List Sg) (b : Bool) : D := .agg [sgD l b]
@[simp] def slF (l : List F) : D := .sl 57 (fsC l) l.length false
theorem sgC_append (a b : List Sg) : sgC (a ++ b) = sgC a ++ sgC b := by simp [sgC]
theorem sgC_len : ∀ {l : List Sg}, (∀ p ∈ l, sgOk p) → (sgC l).length = l.length * 61
  | [], _ => rfl
  | p :: l, h => by
    have e : sgC (p :: l) = (fcs p.1 0 57 ++ p.2) ++ sgC l := rfl
    rw [e, List.length_append, List.length_append, fcs_len57, (h p (by simp)).2.1, sgC_len fun q hq => h q (by simp [hq]), List.length_cons]
    omega
theorem sgC_at {l1 l2 : List Sg} {p : Sg} (h : ∀ q ∈ l1 ++ p :: l2, sgOk q) : ((sgC (l1 ++ p :: l2)).drop (l1.length * 61)).take 61 = fcs p.1 0 57 ++ p.2 := by
  have e : sgC (p :: l2) = (fcs p.1 0 57 ++ p.2) ++ sgC l2 := rfl
  have h1 : (sgC l1).length = l1.length * 61 := sgC_len fun q hq => h q (by simp [hq])
  have h2 : (fcs p.1 0 57 ++ p.2).length = 61 := by rw [List.length_append, fcs_len57, (h p (by simp)).2.1]
  rw [sgC_append, e, ← h1, List.drop_left, List.take_append, h2, Nat.sub_self, List.take_zero, List.append_nil, List.take_of_length_le (by omega)]
/-- The valid facts, as they lie. -/
def vF (l : List Sg) : List F := (l.map (·.1)).filter fun f => (numF f).2
theorem vF_append (a b : List Sg) : vF (a ++ b) = vF a ++ vF b := by simp [vF]
open Classical in
noncomputable def kOf (f : F) : Fk := if h : fOk f then ⟨f, h⟩ else default
theorem kOf_val : ∀ {l : List F}, (∀ f ∈ l, fOk f) → (l.map kOf).map (·.1) = l
  | [], _ => rfl
  | f :: l, h => by
    rw [List.map_cons, List.map_cons, kOf_val fun g hg => h g (by simp [hg])]
    congr 1
    rw [kOf, dif_pos (h f (by simp))]
/-- The valid facts in order, each once. -/
noncomputable def valL (l : List Sg) : List F := setF ((vF l).map kOf)
theorem setF_nil : setF [] = [] := by
  have : sortK [] = [] := List.eq_nil_of_length_eq_zero (by rw [sortK_len]; rfl)
  rw [setF, this]
  rfl
theorem vF_len (l : List Sg) : (vF l).length ≤ l.length := by
  have := List.length_filter_le (fun f : F => (numF f).2) (l.map (·.1))
  rw [List.length_map] at this
  exact this
def vS (l : List Sg) (b : Bool) (i : Nat) : List F → St
  | [] => mkS 25 [(3, .d nilD), (7, .d (sgD l b)), (8, .d (.v (.int .i64 l.length))), (9, .d (.v (.int .i64 (i : Nat))))] []
  | f :: r => mkS 25 [(3, .row 505), (7, .d (sgD l b)), (8, .d (.v (.int .i64 l.length))), (9, .d (.v (.int .i64 (i : Nat))))] [(505, rB (f :: r))]
@[simp] theorem sg_side {p : Sg} (h : sgOk p) : ∀ d ∈ p.2, oneD d = true := h.2.2
set_option maxRecDepth 10000 in
set_option maxHeartbeats 4000000 in
theorem valid_ok (l : List Sg) (b : Bool) (hl : l.length ≤ 14) (hv : ∀ p ∈ l, sgOk p) : Fn0 Tryd.prog 17 [lgD l b] (slF (valL l)) := by
  refine Fun.of_wp (pn := noPn) Tryd.tab Tryd.func17 rfl fun β0 => ?_
  simp only [Tryd.f17]
  repeat (first | refine WP.seq ?_ | refine WP.block ?_ | (refine WP.region Tryd.tab ?_; simp -dsimp) | (refine WP.draw Tryd.tab Tryd.mixed ?_; simp -dsimp) | refine And.intro (by first | rfl | omega | decide | (simp; done) | (simp; omega) | (intro _ h; exact fcs_side h; done) | (intros; simp_all; done) | (intros; simp_all; omega)) ?_)
  refine WP.loopWk (fun m S => ∃ l1 l2, l = l1 ++ l2 ∧ m = l2.length ∧ S = vS l b l1.length (vF l1)) l.length (S0 := vS l b 0 []) (Wk.lessE [] (by simp [vS]) (by simp [vS])) ⟨[], l, rfl, rfl, rfl⟩ ?_
  rintro _ _ ⟨l1, l2, hl12, rfl, rfl⟩
  cases l2 with
  | nil =>
    simp only [List.append_nil] at hl12
    subst hl12
    have hvo : ∀ f ∈ vF l, fOk f := fun f hf => by
      obtain ⟨hf, _⟩ := List.mem_filter.1 hf
      obtain ⟨p, hp, rfl⟩ := List.mem_map.1 hf
      exact (hv p hp).1
    have hvl := vF_len l
    cases hvf : vF l with
    | nil =>
      have hV : valL l = [] := by rw [valL, hvf]; exact setF_nil
      rw [vS]
      simp -dsimp
      repeat (first | refine WP.seq ?_ | refine WP.block ?_ | (refine WP.region Tryd.tab ?_; simp -dsimp) | (refine WP.draw Tryd.tab Tryd.mixed ?_; simp -dsimp) | refine And.intro (by first | rfl | omega | decide | (simp; done) | (simp; omega) | (intro _ h; exact fcs_side h; done) | (intros; simp_all; done) | (intros; simp_all; omega)) ?_)
      refine WP.cond (b := false) (by simp) (fun h => by cases h) (fun _ => ?_)
      refine WP.exit ?_
      simp -dsimp
      repeat (first | refine WP.seq ?_ | refine WP.block ?_ | (refine WP.region Tryd.tab ?_; simp -dsimp) | (refine WP.draw Tryd.tab Tryd.mixed ?_; simp -dsimp) | refine And.intro (by first | rfl | omega | decide | (simp; done) | (simp; omega) | (intro _ h; exact fcs_side h; done) | (intros; simp_all; done) | (intros; simp_all; omega)) ?_)
      refine vcStop.call0 Tryd.body29 set_nil rfl rfl (by simp) ?_
      simp -dsimp
      repeat (first | refine WP.seq ?_ | refine WP.block ?_ | (refine WP.region Tryd.tab ?_; simp -dsimp) | (refine WP.draw Tryd.tab Tryd.mixed ?_; simp -dsimp) | refine And.intro (by first | rfl | omega | decide | (simp; done) | (simp; omega) | (intro _ h; exact fcs_side h; done) | (intros; simp_all; done) | (intros; simp_all; omega)) ?_)
      refine WP.ret (finQ.retWE ((Wk.lessE [] (S' := mkS 25 [(2, .d nilD)] []) (by simp) (by simp)).trans ((Wk.nilSlot 2 500 54 57 (by simp) (by simp)).trans (Wk.freeze (k := 500) (T := 54) (sz := 57) (n := 0) (ds := []) (by simp)))) ?_)
      simp -dsimp [hV]
    | cons f r =>
      have hset := set_ok ((vF l).map kOf) (by rw [List.length_map, hvf]; simp) (by rw [List.length_map]; omega)
      rw [kOf_val hvo, hvf] at hset
      have hV : valL l = setF ((f :: r).map kOf) := by rw [valL, hvf]
      generalize setF ((f :: r).map kOf) = V at hset hV
      rw [vS]
      simp -dsimp
      repeat (first | refine WP.seq ?_ | refine WP.block ?_ | (refine WP.region Tryd.tab ?_; simp -dsimp) | (refine WP.draw Tryd.tab Tryd.mixed ?_; simp -dsimp) | refine And.intro (by first | rfl | omega | decide | (simp; done) | (simp; omega) | (intro _ h; exact fcs_side h; done) | (intros; simp_all; done) | (intros; simp_all; omega)) ?_)
      refine WP.cond (b := false) (by simp) (fun h => by cases h) (fun _ => ?_)
      refine WP.exit ?_
      simp -dsimp
      repeat (first | refine WP.seq ?_ | refine WP.block ?_ | (refine WP.region Tryd.tab ?_; simp -dsimp) | (refine WP.draw Tryd.tab Tryd.mixed ?_; simp -dsimp) | refine And.intro (by first | rfl | omega | decide | (simp; done) | (simp; omega) | (intro _ h; exact fcs_side h; done) | (intros; simp_all; done) | (intros; simp_all; omega)) ?_)
      refine vcStop.call Tryd.body29 (hset) (rl [(1000, 505), (0, 600)]) rfl rfl (by simp [BoxLeq]) (CallOk.of (by simp [BoxLeq]) rfl (by first | rfl | (simp [BoxLeq]; done)) (by simp [BoxLeq]) (by simp [BoxLeq])) (fun _ h => h.elim) (fun ⟨_, h⟩ => h.elim) (fun ⟨_, h⟩ => h.elim) (by simp [BoxLeq]) ?_
      simp -dsimp
      repeat (first | refine WP.seq ?_ | refine WP.block ?_ | (refine WP.region Tryd.tab ?_; simp -dsimp) | (refine WP.draw Tryd.tab Tryd.mixed ?_; simp -dsimp) | refine And.intro (by first | rfl | omega | decide | (simp; done) | (simp; omega) | (intro _ h; exact fcs_side h; done) | (intros; simp_all; done) | (intros; simp_all; omega)) ?_)
      rw [hV]
      refine WP.ret (finQ.retWE ((Wk.lessE [505] (S' := mkS 25 [(2, .row 600)] [(600, rB V)]) (by simp) (by simp)).trans (Wk.freeze (k := 600) (T := 54) (sz := 57) (n := V.length) (ds := fsC V) (by simp))) ?_)
      simp -dsimp
  | cons p l2 =>
    have hll : l.length = l1.length + (l2.length + 1) := by rw [hl12]; simp
    have e1 : IntKind.i64.wrap ((l1.length : Int) + 1) = (l1.length : Int) + 1 := IntWalk.i64_in _ (by omega)
    have hp := hv p (by rw [hl12]; simp)
    have h1 := sgC_at (l1 := l1) (p := p) (l2 := l2) (by rw [← hl12]; exact hv)
    rw [← hl12] at h1
    have hc := check_ok p.1 hp.1
    have h57 : List.take 57 (List.take 61 (List.map AV.d (fcs p.1 0 57) ++ List.map AV.d p.2)) = (fcs p.1 0 57).map .d := by
      rw [List.take_take, ← List.map_append, ← List.map_take, List.take_append, fcs_len57, List.take_of_length_le (by rw [fcs_len57]; omega)]
      simp
    have hds : ∀ c ∈ List.take 61 (List.map AV.d (fcs p.1 0 57) ++ List.map AV.d p.2), ∃ d, c = AV.d d := fun c h => by
      rw [← List.map_append] at h
      obtain ⟨d, hd, rfl⟩ := List.mem_map.1 (List.mem_of_mem_take h)
      exact ⟨d, rfl⟩
    have hL : ∀ k, AV.hasL k (List.take 61 (List.map AV.d (fcs p.1 0 57) ++ List.map AV.d p.2)) = false := fun k => hasL_ds hds
    have hone : ∀ c ∈ List.take 61 (List.map AV.d (fcs p.1 0 57) ++ List.map AV.d p.2), oneA c = true := fun c h => by
      rw [← List.map_append] at h
      obtain ⟨d, hd, rfl⟩ := List.mem_map.1 (List.mem_of_mem_take h)
      rcases List.mem_append.1 hd with hd | hd
      · exact fcs_side hd
      · exact hp.2.2 d hd
    have hn : vF (l1 ++ [p]) = vF l1 ++ if (numF p.1).2 = true then [p.1] else [] := by
      rw [vF_append]; congr 1
      simp only [vF, List.map_cons, List.map_nil, List.filter_cons, List.filter_nil]
    cases hvf : vF l1 with
    | nil =>
      rw [vS]
      simp -dsimp
      repeat (first | refine WP.seq ?_ | refine WP.block ?_ | (refine WP.region Tryd.tab ?_; simp -dsimp) | (refine WP.draw Tryd.tab Tryd.mixed ?_; simp -dsimp) | refine And.intro (by first | rfl | omega | decide | (simp; done) | (simp; omega) | (intro _ h; exact fcs_side h; done) | (intros; simp_all; done) | (intros; simp_all; omega)) ?_)
      refine WP.cond (b := true) (by simp; omega) (fun _ => ?_) (fun h => by cases h)
      refine WP.skip ?_
      simp -dsimp
      refine WP.seq (WP.block ?_)
      repeat (first | refine WP.seq ?_ | refine WP.block ?_ | (refine WP.region Tryd.tab ?_; simp -dsimp [h1, hp.2.1, h57]) | (refine WP.draw Tryd.tab Tryd.mixed ?_; simp -dsimp [h1, hp.2.1, h57]) | refine And.intro (by first | rfl | omega | decide | (simp; done) | (simp; omega) | (intro _ h; exact fcs_side h; done) | (intros; simp_all; done) | (intros; simp_all; omega)) ?_)
      refine vcStop.call0 Tryd.body9 hc rfl rfl (by simp [fD]) ?_
      simp -dsimp
      repeat (first | refine WP.seq ?_ | refine WP.block ?_ | (refine WP.region Tryd.tab ?_; simp -dsimp) | (refine WP.draw Tryd.tab Tryd.mixed ?_; simp -dsimp) | refine And.intro (by first | rfl | omega | decide | (simp; done) | (simp; omega) | (intro _ h; exact fcs_side h; done) | (intros; simp_all; done) | (intros; simp_all; omega)) ?_)
      refine WP.cond (b := (numF p.1).2) (by cases (numF p.1).2 <;> simp) (fun hq => ?_) (fun hq => ?_)
      · rw [if_pos hq, hvf, List.nil_append] at hn
        have hS : vS l b (l1 ++ [p]).length (vF (l1 ++ [p])) = mkS 25 [(3, .row 505), (7, .d (sgD l b)), (8, .d (.v (.int .i64 l.length))), (9, .d (.v (.int .i64 ((l1 ++ [p]).length : Nat))))] [(505, rB [p.1])] := by rw [hn]; rfl
        repeat (first | refine WP.seq ?_ | refine WP.block ?_ | (refine WP.region Tryd.tab ?_; simp -dsimp [hp.2.1, h57, hL]) | (refine WP.draw Tryd.tab Tryd.mixed ?_; simp -dsimp [hp.2.1, h57, hL]) | refine And.intro (by first | rfl | omega | decide | (simp; done) | (simp; omega) | (intro _ h; exact fcs_side h; done) | (intros; simp_all; done) | (intros; simp_all; omega)) ?_)
        refine loopW.next (mkS 25 [(3, .row 505), (7, .d (sgD l b)), (8, .d (.v (.int .i64 l.length))), (9, .d (.v (.int .i64 ((l1 ++ [p]).length : Nat))))] [(505, rB [p.1])]) (Wk.go [5, 20] 21 505 (by decide) (by simp) (by simp [e1]) (by simp [fsC])) l2.length (by simp) ⟨l1 ++ [p], l2, by simp [hl12], rfl, hS.symm⟩
      · rw [if_neg (by simp [hq]), List.append_nil, hvf] at hn
        have hS : vS l b (l1 ++ [p]).length (vF (l1 ++ [p])) = mkS 25 [(3, .d nilD), (7, .d (sgD l b)), (8, .d (.v (.int .i64 l.length))), (9, .d (.v (.int .i64 ((l1 ++ [p]).length : Nat))))] [] := by rw [hn]; rfl
        refine WP.skip ?_
        simp -dsimp
        repeat (first | refine WP.seq ?_ | refine WP.block ?_ | (refine WP.region Tryd.tab ?_; simp -dsimp) | (refine WP.draw Tryd.tab Tryd.mixed ?_; simp -dsimp) | refine And.intro (by first | rfl | omega | decide | (simp; done) | (simp; omega) | (intro _ h; exact fcs_side h; done) | (intros; simp_all; done) | (intros; simp_all; omega)) ?_)
        refine loopW.next (mkS 25 [(3, .d nilD), (7, .d (sgD l b)), (8, .d (.v (.int .i64 l.length))), (9, .d (.v (.int .i64 ((l1 ++ [p]).length : Nat))))] []) (Wk.lessE [5] (by simp [e1]) (by simp)) l2.length (by simp) ⟨l1 ++ [p], l2, by simp [hl12], rfl, hS.symm⟩
    | cons f r =>
      rw [vS]
      simp -dsimp
      repeat (first | refine WP.seq ?_ | refine WP.block ?_ | (refine WP.region Tryd.tab ?_; simp -dsimp) | (refine WP.draw Tryd.tab Tryd.mixed ?_; simp -dsimp) | refine And.intro (by first | rfl | omega | decide | (simp; done) | (simp; omega) | (intro _ h; exact fcs_side h; done) | (intros; simp_all; done) | (intros; simp_all; omega)) ?_)
      refine WP.cond (b := true) (by simp; omega) (fun _ => ?_) (fun h => by cases h)
      refine WP.skip ?_
      simp -dsimp
      refine WP.seq (WP.block ?_)
      repeat (first | refine WP.seq ?_ | refine WP.block ?_ | (refine WP.region Tryd.tab ?_; simp -dsimp [h1, hp.2.1, h57]) | (refine WP.draw Tryd.tab Tryd.mixed ?_; simp -dsimp [h1, hp.2.1, h57]) | refine And.intro (by first | rfl | omega | decide | (simp; done) | (simp; omega) | (intro _ h; exact fcs_side h; done) | (intros; simp_all; done) | (intros; simp_all; omega)) ?_)
      refine vcStop.call0 Tryd.body9 hc rfl rfl (by simp [fD]) ?_
      simp -dsimp
      repeat (first | refine WP.seq ?_ | refine WP.block ?_ | (refine WP.region Tryd.tab ?_; simp -dsimp) | (refine WP.draw Tryd.tab Tryd.mixed ?_; simp -dsimp) | refine And.intro (by first | rfl | omega | decide | (simp; done) | (simp; omega) | (intro _ h; exact fcs_side h; done) | (intros; simp_all; done) | (intros; simp_all; omega)) ?_)
      refine WP.cond (b := (numF p.1).2) (by cases (numF p.1).2 <;> simp) (fun hq => ?_) (fun hq => ?_)
      · rw [if_pos hq, hvf] at hn
        have hS : vS l b (l1 ++ [p]).length (vF (l1 ++ [p])) = mkS 25 [(3, .row 505), (7, .d (sgD l b)), (8, .d (.v (.int .i64 l.length))), (9, .d (.v (.int .i64 ((l1 ++ [p]).length : Nat))))] [(505, rB (f :: r ++ [p.1]))] := by rw [hn]; rfl
        have hrl := vF_len l1
        rw [hvf, List.length_cons] at hrl
        repeat (first | refine WP.seq ?_ | refine WP.block ?_ | (refine WP.region Tryd.tab ?_; simp -dsimp [hp.2.1, h57, hL]) | (refine WP.draw Tryd.tab Tryd.mixed ?_; simp -dsimp [hp.2.1, h57, hL]) | refine And.intro (by first | rfl | omega | decide | (simp; done) | (simp; omega) | (intro _ h; exact fcs_side h; done) | (intros; simp_all; done) | (intros; simp_all; omega)) ?_)
        refine loopW.next (mkS 25 [(3, .row 505), (7, .d (sgD l b)), (8, .d (.v (.int .i64 l.length))), (9, .d (.v (.int .i64 ((l1 ++ [p]).length : Nat))))] [(505, rB (f :: r ++ [p.1]))]) (Wk.go [5, 20, 505] 21 505 (by decide) (by simp) (by simp [e1]) (by simp [fsC])) l2.length (by simp) ⟨l1 ++ [p], l2, by simp [hl12], rfl, hS.symm⟩
      · rw [if_neg (by simp [hq]), List.append_nil, hvf] at hn
        have hS : vS l b (l1 ++ [p]).length (vF (l1 ++ [p])) = mkS 25 [(3, .row 505), (7, .d (sgD l b)), (8, .d (.v (.int .i64 l.length))), (9, .d (.v (.int .i64 ((l1 ++ [p]).length : Nat))))] [(505, rB (f :: r))] := by rw [hn]; rfl
        refine WP.skip ?_
        simp -dsimp
        repeat (first | refine WP.seq ?_ | refine WP.block ?_ | (refine WP.region Tryd.tab ?_; simp -dsimp) | (refine WP.draw Tryd.tab Tryd.mixed ?_; simp -dsimp) | refine And.intro (by first | rfl | omega | decide | (simp; done) | (simp; omega) | (intro _ h; exact fcs_side h; done) | (intros; simp_all; done) | (intros; simp_all; omega)) ?_)
        refine loopW.next (mkS 25 [(3, .row 505), (7, .d (sgD l b)), (8, .d (.v (.int .i64 l.length))), (9, .d (.v (.int .i64 ((l1 ++ [p]).length : Nat))))] [(505, rB (f :: r))]) (Wk.lessE [5] (by simp [e1]) (by simp)) l2.length (by simp) ⟨l1 ++ [p], l2, by simp [hl12], rfl, hS.symm⟩
end Go.Proofs.YtghfancmonhkcaaDoor
