/-
  Joined texts.
-/
import Derived.Test.YtghfancmonhkcaaDoorKD
set_option linter.unusedVariables false
set_option linter.unusedSimpArgs false
set_option linter.unusedSectionVars false
/-
  Ledgers: what LedgerForce counts.
-/
set_option linter.unusedSimpArgs false
set_option linter.unusedVariables false
namespace Go.Proofs.YtghfancmonhkcaaDoor
open Go.Xe Go.RowKit

def wantD (l : List Sg) (t : Int) (pre : List Sg) (f : F) : Bool := forceD l t f && pre.all fun q => !eqF f q.1
def wl (l : List Sg) (t : Int) : List Sg → List Sg → List F
  | _, [] => []
  | pre, p :: r => (if wantD l t pre p.1 = true then [p.1] else []) ++ wl l t (pre ++ [p]) r
theorem wl_snoc (l : List Sg) (t : Int) : ∀ (a pre : List Sg) (p : Sg), wl l t pre (a ++ [p]) = wl l t pre a ++ if wantD l t (pre ++ a) p.1 = true then [p.1] else []
  | [], pre, p => by simp [wl]
  | x :: a, pre, p => by
    rw [List.cons_append, wl, wl_snoc l t a, wl, List.append_assoc, List.append_assoc]
    simp
theorem wl_in {l : List Sg} {t : Int} : ∀ {a pre : List Sg}, (∀ p ∈ a, sgOk p) → (∀ p ∈ pre, sgOk p) → ∀ f, f ∈ wl l t pre a ↔ (∃ p ∈ a, p.1 = f) ∧ forceD l t f = true ∧ ∀ q ∈ pre, q.1 ≠ f
  | [], _, _, _, f => by simp [wl]
  | x :: a, pre, ha, hp, f => by
    have hx := ha x (by simp)
    have hp2 : ∀ p ∈ pre ++ [x], sgOk p := fun p h => by
      rcases List.mem_append.1 h with h | h
      · exact hp p h
      · rw [List.mem_singleton] at h; subst h; exact hx
    have hw : wantD l t pre x.1 = true ↔ forceD l t x.1 = true ∧ ∀ q ∈ pre, q.1 ≠ x.1 := by
      rw [wantD, Bool.and_eq_true, List.all_eq_true]
      refine and_congr Iff.rfl (forall_congr' fun q => forall_congr' fun hq => ?_)
      rw [Bool.not_eq_true', ← Bool.not_eq_true, eqF_iff hx.1 (hp q hq).1]
      exact ⟨fun h e => h e.symm, fun h e => h e.symm⟩
    rw [wl, List.mem_append, wl_in (fun p h => ha p (by simp [h])) hp2]
    constructor
    · rintro (h | ⟨⟨p, h1, rfl⟩, h2, h3⟩)
      · split at h
        · rename_i hb
          rw [List.mem_singleton] at h
          subst h
          exact ⟨⟨x, by simp, rfl⟩, (hw.1 hb).1, (hw.1 hb).2⟩
        · cases h
      · exact ⟨⟨p, by simp [h1], rfl⟩, h2, fun q hq => h3 q (by simp [hq])⟩
    · rintro ⟨⟨p, h1, rfl⟩, h2, h3⟩
      by_cases he : x.1 = p.1
      · left
        rw [if_pos (hw.2 ⟨by rw [he]; exact h2, fun q hq => by rw [he]; exact h3 q hq⟩)]
        simp [he]
      · right
        rcases List.mem_cons.1 h1 with rfl | h1
        · exact absurd rfl he
        · refine ⟨⟨p, h1, rfl⟩, h2, fun q hq => ?_⟩
          rcases List.mem_append.1 hq with hq | hq
          · exact h3 q hq
          · rw [List.mem_singleton] at hq; subst hq; exact he
theorem wl_nodup {l : List Sg} {t : Int} : ∀ {a pre : List Sg}, (∀ p ∈ a, sgOk p) → (∀ p ∈ pre, sgOk p) → (wl l t pre a).Nodup
  | [], _, _, _ => by simp [wl]
  | x :: a, pre, ha, hp => by
    have hx := ha x (by simp)
    have hp2 : ∀ p ∈ pre ++ [x], sgOk p := fun p h => by
      rcases List.mem_append.1 h with h | h
      · exact hp p h
      · rw [List.mem_singleton] at h; subst h; exact hx
    have ha2 : ∀ p ∈ a, sgOk p := fun p h => ha p (by simp [h])
    have ih := wl_nodup (l := l) (t := t) ha2 hp2
    rw [wl]
    split
    · rw [List.singleton_append, List.nodup_cons]
      refine ⟨fun h => ?_, ih⟩
      exact ((wl_in ha2 hp2 x.1).1 h).2.2 x (by simp) rfl
    · exact ih
theorem wl_len {l : List Sg} (hv : ∀ p ∈ l, sgOk p) (t : Int) : (wl l t [] l).length = (viewL t (valL l)).length := by
  have hn := wl_nodup (l := l) (t := t) hv (pre := []) (by simp)
  have hm : ∀ f, f ∈ wl l t [] l ↔ f ∈ viewL t (valL l) := fun f => by
    rw [wl_in hv (by simp), forceD_iff hv]
    simp
  have irr : ∀ a : F, ¬ cmpF a a < 0 := fun a h => by have := cmp_fact.anti a a; omega
  have hvn : (viewL t (valL l)).Nodup := (view_asc hv t).imp fun {a b} h e => by subst e; exact irr _ h
  letI : DecidableEq F := fun a b => Classical.propDecidable (a = b)
  have h1 := rm_len _ _ hn fun x hx => (hm x).1 hx
  have h2 := rm_len _ _ hvn fun x hx => (hm x).2 hx
  omega
theorem wl_le (l : List Sg) (t : Int) : ∀ (a pre : List Sg), (wl l t pre a).length ≤ a.length
  | [], _ => by simp [wl]
  | x :: a, pre => by
    have := wl_le l t a (pre ++ [x])
    rw [wl, List.length_append, List.length_cons]
    split <;> simp <;> omega
end Go.Proofs.YtghfancmonhkcaaDoor

/-
  Ledgers: LedgerForce.
-/
set_option linter.unusedSimpArgs false
set_option linter.unusedVariables false
namespace Go.Proofs.YtghfancmonhkcaaDoor
open Go.Xe Go.RowKit

theorem key52 : Tryd.prog.keyTypeAt 5 52 = true := by kernel_rfl
theorem gd52 : Tryd.prog.eqGuardType Tryd.prog.depth 52 = false := by kernel_rfl
theorem st52 : (match Tryd.prog.underlying 52 with | some (.struct _) | some (.array _ _) => true | _ => false) = true := by kernel_rfl
theorem okRef {r : Int × Int} (h1 : isI r.1) (h2 : isI r.2) : OkD Tryd.τ 2 52 [.v (.int .i64 r.1), .v (.int .i64 r.2)] := by
  have h1' : ∀ x : Int, isI x → OkD Tryd.τ 1 3 [.v (.int .i64 x)] := fun x hx => ⟨x, rfl, hx.1, hx.2⟩
  refine ⟨[[.v (.int .i64 r.1)], [.v (.int .i64 r.2)]], rfl, rfl, ?_⟩
  intro i x f hx hf
  match i, hx, hf with
  | 0, hx, hf => cases hx; cases hf; exact h1' _ h1
  | 1, hx, hf => cases hx; cases hf; exact h1' _ h2
  | n + 2, hx, _ => simp at hx
theorem litsRef {a b c d : Int} : (decide (a = c) && decide (b = d)) = true ↔ litsD [.v (.int .i64 a), .v (.int .i64 b)] = litsD [.v (.int .i64 c), .v (.int .i64 d)] := by
  simp only [Bool.and_eq_true, decide_eq_true_eq, litsD, List.flatMap_cons, List.flatMap_nil, litD, List.append_nil, List.cons_append, List.nil_append, List.cons.injEq, Lit.int.injEq, and_true, true_and]
def voidT (l : List Sg) (t : Int) (f : F) (p : Sg) : Bool := decide (p.1 3 = 13) && firstD l t p.1 && decide (p.1 0 ≤ f 0) && (decide (p.1 55 = f 0) && decide (p.1 56 = f 1))
/-- What the inner loop knows. -/
def wantP (l : List Sg) (t : Int) (f : F) (i : Nat) (m : List Sg) : Bool := (firstD l t f && !decide (f 3 = 13) && m.all fun p => !voidT l t f p) && (m.take i).all fun q => !eqF f q.1
theorem wantP_nil (l : List Sg) (t : Int) (f : F) (i : Nat) : wantP l t f i [] = (firstD l t f && !decide (f 3 = 13)) := by simp [wantP]
theorem wantP_snoc (l : List Sg) (t : Int) (f : F) (i : Nat) (m : List Sg) (q : Sg) : wantP l t f i (m ++ [q]) = (wantP l t f i m && !voidT l t f q && !(decide (m.length < i) && eqF f q.1)) := by
  simp only [wantP, List.all_append, List.take_append, List.all_cons, List.all_nil, Bool.and_true]
  by_cases h : m.length < i
  · obtain ⟨j, hj⟩ : ∃ j, i - m.length = j + 1 := ⟨i - m.length - 1, by omega⟩
    rw [hj, decide_eq_true h]
    simp only [List.take_succ_cons, List.take_nil, List.all_cons, List.all_nil, Bool.and_true, Bool.true_and]
    cases firstD l t f && !decide (f 3 = 13) <;> cases m.all (fun p => !voidT l t f p) <;> cases voidT l t f q <;> simp
  · rw [show i - m.length = 0 by omega, decide_eq_false h]
    simp only [List.take_zero, List.all_nil, Bool.and_true, Bool.false_and, Bool.not_false]
    cases firstD l t f && !decide (f 3 = 13) <;> cases m.all (fun p => !voidT l t f p) <;> cases voidT l t f q <;> simp
theorem wantP_all {l l1 l2 : List Sg} (t : Int) (f : F) (h : l = l1 ++ l2) : wantP l t f l1.length l = wantD l t l1 f := by
  have e : l.take l1.length = l1 := by rw [h, List.take_left]
  rw [wantP, e, wantD, forceD]
  rfl
abbrev fV : AV := .fn (.func 8) [] [.ptr 2 0, .ptr 3 0]
set_option maxRecDepth 10000 in
set_option maxHeartbeats 4000000 in
theorem force_ok (l : List Sg) (b : Bool) (t : Int) (hv : ∀ p ∈ l, sgOk p) : Fn0 Tryd.prog 3 [lgD l b, .v (.int .i64 t)] (.v (.bool true)) := by
  refine Fun.of_wp (pn := noPn) Tryd.tab Tryd.func3 rfl fun β0 => ?_
  simp only [Tryd.f3]
  repeat (first | refine WP.seq ?_ | refine WP.block ?_ | (refine WP.region Tryd.tab ?_; simp -dsimp) | (refine WP.draw Tryd.tab Tryd.mixed ?_; simp -dsimp) | refine And.intro (by first | rfl | omega | decide | (simp; done) | (simp; omega) | (intro _ h; exact fcs_side h; done) | (intros; simp_all; done) | (intros; simp_all; omega)) ?_)
  refine vcStop.call0 Tryd.body5 sane_ok rfl rfl (by simp) ?_
  simp -dsimp
  repeat (first | refine WP.seq ?_ | refine WP.block ?_ | (refine WP.region Tryd.tab ?_; simp -dsimp) | (refine WP.draw Tryd.tab Tryd.mixed ?_; simp -dsimp) | refine And.intro (by first | rfl | omega | decide | (simp; done) | (simp; omega) | (intro _ h; exact fcs_side h; done) | (intros; simp_all; done) | (intros; simp_all; omega)) ?_)
  refine WP.cond (b := false) (by simp) (fun h => by cases h) (fun _ => ?_)
  refine WP.skip ?_
  simp -dsimp
  repeat (first | refine WP.seq ?_ | refine WP.block ?_ | (refine WP.region Tryd.tab ?_; simp -dsimp) | (refine WP.draw Tryd.tab Tryd.mixed ?_; simp -dsimp) | refine And.intro (by first | rfl | omega | decide | (simp; done) | (simp; omega) | (intro _ h; exact fcs_side h; done) | (intros; simp_all; done) | (intros; simp_all; omega)) ?_)
  by_cases hl : 14 < l.length
  · refine WP.cond (b := true) (by simp; omega) (fun _ => ?_) (fun h => by cases h)
    repeat (first | refine WP.seq ?_ | refine WP.block ?_ | (refine WP.region Tryd.tab ?_; simp -dsimp) | (refine WP.draw Tryd.tab Tryd.mixed ?_; simp -dsimp) | refine And.intro (by first | rfl | omega | decide | (simp; done) | (simp; omega) | (intro _ h; exact fcs_side h; done) | (intros; simp_all; done) | (intros; simp_all; omega)) ?_)
    refine WP.ret (finQ.retE ?_)
    simp -dsimp
  refine WP.cond (b := false) (by simp; omega) (fun h => by cases h) (fun _ => ?_)
  refine WP.skip ?_
  simp -dsimp
  repeat (first | refine WP.seq ?_ | refine WP.block ?_ | (refine WP.region Tryd.tab ?_; simp -dsimp) | (refine WP.draw Tryd.tab Tryd.mixed ?_; simp -dsimp) | refine And.intro (by first | rfl | omega | decide | (simp; done) | (simp; omega) | (intro _ h; exact fcs_side h; done) | (intros; simp_all; done) | (intros; simp_all; omega)) ?_)
  have hf := valL_facts hv
  have hvw := view_ok l b t (by omega) hv (by omega) (fun f hf' => (hf.2.2.2 f hf').1)
  refine vcStop.call0L Tryd.body6 hvw rfl rfl (And.intro (Leq.aggD [sgD l b]) (And.intro (.refl _) trivial)) ?_
  have hasc := view_asc hv t
  have hlen := wl_len hv t
  have hmem : ∀ f, f ∈ viewL t (valL l) ↔ (∃ p ∈ l, p.1 = f) ∧ forceD l t f = true := fun f => forceD_iff hv t f
  have hVl : (viewL t (valL l)).length ≤ 14 := by
    have := (view_sub t (valL l)).length_le
    have := hf.2.2.1
    omega
  have hVo : ∀ f ∈ viewL t (valL l), fOk f := fun f h => (hf.2.2.2 f ((view_sub t _).subset h)).1
  generalize viewL t (valL l) = V at hasc hlen hmem hVl hVo
  simp -dsimp
  repeat (first | refine WP.seq ?_ | refine WP.block ?_ | (refine WP.region Tryd.tab ?_; simp -dsimp) | (refine WP.draw Tryd.tab Tryd.mixed ?_; simp -dsimp) | refine And.intro (by first | rfl | omega | decide | (simp; done) | (simp; omega) | (intro _ h; exact fcs_side h; done) | (intros; simp_all; done) | (intros; simp_all; omega)) ?_)
  refine WP.loopWk (fun m S => ∃ j : Nat, j + m = V.length + 1 ∧ S = mkS 139 [(2, .ptr 2 0), (3, .ptr 3 0), (5, .d (slF V)), (6, .d (.v (.int .i64 ((j : Int) + 1))))] [(2, .cells 24 [.d (sgD l b)]), (3, .cells 3 [.d (.v (.int .i64 t))])]) (V.length + 1)
    (S0 := mkS 139 [(2, .ptr 2 0), (3, .ptr 3 0), (5, .d (slF V)), (6, .d (.v (.int .i64 ((0 : Nat) + 1 : Int))))] [(2, .cells 24 [.d (sgD l b)]), (3, .cells 3 [.d (.v (.int .i64 t))])]) (Wk.lessE [] (by simp) (by simp)) ⟨0, by omega, rfl⟩ ?_
  rintro m _ ⟨j, hjm, rfl⟩
  simp -dsimp
  repeat (first | refine WP.seq ?_ | refine WP.block ?_ | (refine WP.region Tryd.tab ?_; simp -dsimp) | (refine WP.draw Tryd.tab Tryd.mixed ?_; simp -dsimp) | refine And.intro (by first | rfl | omega | decide | (simp; done) | (simp; omega) | (intro _ h; exact fcs_side h; done) | (intros; simp_all; done) | (intros; simp_all; omega)) ?_)
  by_cases hj : j + 1 < V.length
  · have e1 : IntKind.i64.wrap ((j : Int) + 1 + 1) = (j : Int) + 1 + 1 := IntWalk.i64_in _ (by omega)
    have e0 : IntKind.i64.wrap (j : Int) = (j : Int) := IntWalk.i64_in _ (by omega)
    have h1 := fsC_at (show j < V.length by omega)
    have h2 := fsC_at hj
    have o1 := hVo _ (fat_in (show j < V.length by omega))
    have o2 := hVo _ (fat_in hj)
    have hc : cmpF (fat V j) (fat V (j + 1)) < 0 := by
      have a : j < V.length := by omega
      unfold fat
      rw [getD_at a, getD_at hj]
      exact List.pairwise_iff_getElem.1 hasc j (j + 1) a hj (by omega)
    generalize fat V j = f at h1 o1 hc
    generalize fat V (j + 1) = g at h2 o2 hc
    refine WP.cond (b := true) (by simp; omega) (fun _ => ?_) (fun h => by cases h)
    refine WP.skip ?_
    simp -dsimp
    refine WP.seq (WP.block ?_)
    repeat (first | refine WP.seq ?_ | refine WP.block ?_ | (refine WP.region Tryd.tab ?_; simp -dsimp [h1, h2, e0]) | (refine WP.draw Tryd.tab Tryd.mixed ?_; simp -dsimp [h1, h2, e0]) | refine And.intro (by first | rfl | omega | decide | (simp; done) | (simp; omega) | (intro _ h; exact fcs_side h; done) | (intros; simp_all; done) | (intros; simp_all; omega)) ?_)
    refine vcStop.call0 Tryd.body7 (factsCompare_ok f g o1 o2) rfl rfl (by simp [fD, h1, h2]) ?_
    simp -dsimp
    repeat (first | refine WP.seq ?_ | refine WP.block ?_ | (refine WP.region Tryd.tab ?_; simp -dsimp) | (refine WP.draw Tryd.tab Tryd.mixed ?_; simp -dsimp) | refine And.intro (by first | rfl | omega | decide | (simp; done) | (simp; omega) | (intro _ h; exact fcs_side h; done) | (intros; simp_all; done) | (intros; simp_all; omega)) ?_)
    refine WP.cond (b := false) (by simp; omega) (fun h => by cases h) (fun _ => ?_)
    refine WP.skip ?_
    simp -dsimp
    repeat (first | refine WP.seq ?_ | refine WP.block ?_ | (refine WP.region Tryd.tab ?_; simp -dsimp) | (refine WP.draw Tryd.tab Tryd.mixed ?_; simp -dsimp) | refine And.intro (by first | rfl | omega | decide | (simp; done) | (simp; omega) | (intro _ h; exact fcs_side h; done) | (intros; simp_all; done) | (intros; simp_all; omega)) ?_)
    refine loopW.next (mkS 139 [(2, .ptr 2 0), (3, .ptr 3 0), (5, .d (slF V)), (6, .d (.v (.int .i64 (((j + 1 : Nat) : Int) + 1))))] [(2, .cells 24 [.d (sgD l b)]), (3, .cells 3 [.d (.v (.int .i64 t))])]) (Wk.lessE [] (by simp [e1]) (by simp)) (m - 1) (by omega) ⟨j + 1, by omega, rfl⟩
  · refine WP.cond (b := false) (by simp; omega) (fun h => by cases h) (fun _ => ?_)
    refine WP.exit ?_
    simp -dsimp
    repeat (first | refine WP.seq ?_ | refine WP.block ?_ | (refine WP.region Tryd.tab ?_; simp -dsimp) | (refine WP.draw Tryd.tab Tryd.mixed ?_; simp -dsimp) | refine And.intro (by first | rfl | omega | decide | (simp; done) | (simp; omega) | (intro _ h; exact fcs_side h; done) | (intros; simp_all; done) | (intros; simp_all; omega)) ?_)
    refine WP.loopWk (fun m S => ∃ l1 l2, l = l1 ++ l2 ∧ m = l2.length ∧ S = mkS 139 [(2, .ptr 2 0), (3, .ptr 3 0), (5, .d (slF V)), (7, fV), (8, .d (.v (.int .i64 ((wl l t [] l1).length : Nat)))), (47, .d (sgD l b)), (48, .d (.v (.int .i64 l.length))), (49, .d (.v (.int .i64 (l1.length : Nat))))] [(2, .cells 24 [.d (sgD l b)]), (3, .cells 3 [.d (.v (.int .i64 t))])]) l.length
      (S0 := mkS 139 [(2, .ptr 2 0), (3, .ptr 3 0), (5, .d (slF V)), (7, fV), (8, .d (.v (.int .i64 0))), (47, .d (sgD l b)), (48, .d (.v (.int .i64 l.length))), (49, .d (.v (.int .i64 0)))] [(2, .cells 24 [.d (sgD l b)]), (3, .cells 3 [.d (.v (.int .i64 t))])]) (Wk.lessE [] (by simp) (by simp)) ⟨[], l, rfl, rfl, by simp [wl]⟩ ?_
    rintro _ _ ⟨l1, l2, hl12, rfl, rfl⟩
    simp -dsimp
    repeat (first | refine WP.seq ?_ | refine WP.block ?_ | (refine WP.region Tryd.tab ?_; simp -dsimp) | (refine WP.draw Tryd.tab Tryd.mixed ?_; simp -dsimp) | refine And.intro (by first | rfl | omega | decide | (simp; done) | (simp; omega) | (intro _ h; exact fcs_side h; done) | (intros; simp_all; done) | (intros; simp_all; omega)) ?_)
    cases l2 with
    | nil =>
      simp only [List.append_nil] at hl12
      subst hl12
      refine WP.cond (b := false) (by simp) (fun h => by cases h) (fun _ => ?_)
      refine WP.exit ?_
      simp -dsimp
      repeat (first | refine WP.seq ?_ | refine WP.block ?_ | (refine WP.region Tryd.tab ?_; simp -dsimp) | (refine WP.draw Tryd.tab Tryd.mixed ?_; simp -dsimp) | refine And.intro (by first | rfl | omega | decide | (simp; done) | (simp; omega) | (intro _ h; exact fcs_side h; done) | (intros; simp_all; done) | (intros; simp_all; omega)) ?_)
      refine WP.ret (finQ.retE ?_)
      simp -dsimp [hlen]
    | cons p l2 =>
      have hll : l.length = l1.length + (l2.length + 1) := by rw [hl12]; simp
      have e1 : IntKind.i64.wrap ((l1.length : Int) + 1) = (l1.length : Int) + 1 := IntWalk.i64_in _ (by omega)
      have hp := hv p (by rw [hl12]; simp)
      have h1 := sgC_at (l1 := l1) (p := p) (l2 := l2) (by rw [← hl12]; exact hv)
      rw [← hl12] at h1
      have hwl : wl l t [] (l1 ++ [p]) = wl l t [] l1 ++ if wantD l t l1 p.1 = true then [p.1] else [] := by rw [wl_snoc]; rfl
      have hwle := wl_le l t l1 []
      have e8 : IntKind.i64.wrap (((wl l t [] l1).length : Int) + 1) = ((wl l t [] l1).length : Int) + 1 := IntWalk.i64_in _ (by omega)
      have hfst := first_ok l b t p.1 hp.1 (by omega) hv
      have h57 : List.take 57 (List.take 61 (List.map AV.d (fcs p.1 0 57) ++ List.map AV.d p.2)) = (fcs p.1 0 57).map .d := by
        rw [List.take_take, ← List.map_append, ← List.map_take, List.take_append, fcs_len57, List.take_of_length_le (by rw [fcs_len57]; omega)]
        simp
      have hds : ∀ c ∈ List.take 61 (List.map AV.d (fcs p.1 0 57) ++ List.map AV.d p.2), ∃ d, c = AV.d d := fun c h => by
        rw [← List.map_append] at h
        obtain ⟨d, hd, rfl⟩ := List.mem_map.1 (List.mem_of_mem_take h)
        exact ⟨d, rfl⟩
      have hL : ∀ k, AV.hasL k (List.take 61 (List.map AV.d (fcs p.1 0 57) ++ List.map AV.d p.2)) = false := fun k => hasL_ds hds
      have hfs : ∀ a ∈ fcs p.1 0 57, oneD a = true := fun _ h => fcs_side h
      have hone : ∀ c ∈ List.take 61 (List.map AV.d (fcs p.1 0 57) ++ List.map AV.d p.2), oneA c = true := fun c h => by
        rw [← List.map_append] at h
        obtain ⟨d, hd, rfl⟩ := List.mem_map.1 (List.mem_of_mem_take h)
        rcases List.mem_append.1 hd with hd | hd
        · exact fcs_side hd
        · exact hp.2.2 d hd
      refine WP.cond (b := true) (by simp; omega) (fun _ => ?_) (fun h => by cases h)
      refine WP.skip ?_
      simp -dsimp
      refine WP.seq (WP.block ?_)
      repeat (first | refine WP.seq ?_ | refine WP.block ?_ | (refine WP.region Tryd.tab ?_; simp -dsimp [h1, hp.2.1, h57, hL]) | (refine WP.draw Tryd.tab Tryd.mixed ?_; simp -dsimp [h1, hp.2.1, h57, hL]) | refine And.intro (by first | rfl | omega | decide | (simp; done) | (simp; omega) | (intro _ h; exact fcs_side h; done) | (intros; simp_all; done) | (intros; simp_all; omega)) ?_)
      refine vcStop.call Tryd.body8 (hfst) (rl [(1000, 2), (1001, 3)]) rfl rfl (by simp [fD, BoxLeq]) (CallOk.of (by simp [fD, BoxLeq]) rfl (by first | rfl | (simp [fD, BoxLeq]; done)) (by simp [fD, BoxLeq]) (by simp [fD, BoxLeq])) (fun _ h => h.elim) (fun ⟨_, h⟩ => h.elim) (fun ⟨_, h⟩ => h.elim) (by simp [fD, BoxLeq]) ?_
      simp -dsimp
      repeat (first | refine WP.seq ?_ | refine WP.block ?_ | (refine WP.region Tryd.tab ?_; simp -dsimp) | (refine WP.draw Tryd.tab Tryd.mixed ?_; simp -dsimp) | refine And.intro (by first | rfl | omega | decide | (simp; done) | (simp; omega) | (intro _ h; exact fcs_side h; done) | (intros; simp_all; done) | (intros; simp_all; omega)) ?_)
      refine WP.loopWk (fun m S => ∃ m1 m2 w, l = m1 ++ m2 ∧ m = m2.length ∧ w = wantP l t p.1 l1.length m1 ∧ S = mkS 139 [(2, .ptr 2 0), (3, .ptr 3 0), (5, .d (slF V)), (7, fV), (8, .d (.v (.int .i64 ((wl l t [] l1).length : Nat)))), (9, .d (.v (.int .i64 (l1.length : Nat)))), (11, .ptr 11 0), (12, .d (.v (.bool w))), (47, .d (sgD l b)), (48, .d (.v (.int .i64 l.length))), (49, .d (.v (.int .i64 (l1.length : Nat)))), (65, .d (sgD l b)), (66, .d (.v (.int .i64 l.length))), (67, .d (.v (.int .i64 (m1.length : Nat))))] [(11, fB p.1), (2, .cells 24 [.d (sgD l b)]), (3, .cells 3 [.d (.v (.int .i64 t))])]) l.length
        (S0 := mkS 139 [(2, .ptr 2 0), (3, .ptr 3 0), (5, .d (slF V)), (7, fV), (8, .d (.v (.int .i64 ((wl l t [] l1).length : Nat)))), (9, .d (.v (.int .i64 (l1.length : Nat)))), (11, .ptr 11 0), (12, .d (.v (.bool (firstD l t p.1 && !decide (p.1 3 = 13))))), (47, .d (sgD l b)), (48, .d (.v (.int .i64 l.length))), (49, .d (.v (.int .i64 (l1.length : Nat)))), (65, .d (sgD l b)), (66, .d (.v (.int .i64 l.length))), (67, .d (.v (.int .i64 0)))] [(11, fB p.1), (2, .cells 24 [.d (sgD l b)]), (3, .cells 3 [.d (.v (.int .i64 t))])]) (Wk.lessE [10] (by simp) (by simp)) ⟨[], l, _, rfl, rfl, (wantP_nil _ _ _ _).symm, rfl⟩ ?_
      rintro _ _ ⟨m1, m2, w, hm12, rfl, hw, rfl⟩
      simp -dsimp
      repeat (first | refine WP.seq ?_ | refine WP.block ?_ | (refine WP.region Tryd.tab ?_; simp -dsimp) | (refine WP.draw Tryd.tab Tryd.mixed ?_; simp -dsimp) | refine And.intro (by first | rfl | omega | decide | (simp; done) | (simp; omega) | (intro _ h; exact fcs_side h; done) | (intros; simp_all; done) | (intros; simp_all; omega)) ?_)
      cases m2 with
      | nil =>
        simp only [List.append_nil] at hm12
        subst hm12
        have hwD : w = wantD l t l1 p.1 := hw.trans (wantP_all t p.1 hl12)
        refine WP.cond (b := false) (by simp) (fun h => by cases h) (fun _ => ?_)
        refine WP.exit ?_
        simp -dsimp
        repeat (first | refine WP.seq ?_ | refine WP.block ?_ | (refine WP.region Tryd.tab ?_; simp -dsimp) | (refine WP.draw Tryd.tab Tryd.mixed ?_; simp -dsimp) | refine And.intro (by first | rfl | omega | decide | (simp; done) | (simp; omega) | (intro _ h; exact fcs_side h; done) | (intros; simp_all; done) | (intros; simp_all; omega)) ?_)
        refine WP.cond (b := !w) (by simp) (fun hb => ?_) (fun hb => ?_)
        · have hb : w = false := by simpa using hb
          have hwn : wl l t [] (l1 ++ [p]) = wl l t [] l1 := by rw [hwl, ← hwD, hb]; simp
          refine WP.exit ?_
          simp -dsimp
          repeat (first | refine WP.seq ?_ | refine WP.block ?_ | (refine WP.region Tryd.tab ?_; simp -dsimp) | (refine WP.draw Tryd.tab Tryd.mixed ?_; simp -dsimp) | refine And.intro (by first | rfl | omega | decide | (simp; done) | (simp; omega) | (intro _ h; exact fcs_side h; done) | (intros; simp_all; done) | (intros; simp_all; omega)) ?_)
          refine loopW.next (mkS 139 [(2, .ptr 2 0), (3, .ptr 3 0), (5, .d (slF V)), (7, fV), (8, .d (.v (.int .i64 ((wl l t [] (l1 ++ [p])).length : Nat)))), (47, .d (sgD l b)), (48, .d (.v (.int .i64 l.length))), (49, .d (.v (.int .i64 ((l1 ++ [p]).length : Nat))))] [(2, .cells 24 [.d (sgD l b)]), (3, .cells 3 [.d (.v (.int .i64 t))])]) (Wk.lessE [11] (by simp [e1, hwn]) (by simp)) l2.length (by simp) ⟨l1 ++ [p], l2, by simp [hl12], rfl, rfl⟩
        · have hb : w = true := by simpa using hb
          have hwn : wl l t [] (l1 ++ [p]) = wl l t [] l1 ++ [p.1] := by rw [hwl, ← hwD, hb]; simp
          have hin : p.1 ∈ V := by
            rw [hmem]
            rw [hb] at hwD
            have := hwD.symm
            rw [wantD, Bool.and_eq_true] at this
            exact ⟨⟨p, by rw [hl12]; simp, rfl⟩, this.1⟩
          refine WP.skip ?_
          simp -dsimp
          repeat (first | refine WP.seq ?_ | refine WP.block ?_ | (refine WP.region Tryd.tab ?_; simp -dsimp [e8]) | (refine WP.draw Tryd.tab Tryd.mixed ?_; simp -dsimp [e8]) | refine And.intro (by first | rfl | omega | decide | (simp; done) | (simp; omega) | (intro _ h; exact fcs_side h; done) | (intros; simp_all; done) | (intros; simp_all; omega)) ?_)
          refine WP.loopWk (fun m S => ∃ k : Nat, k + m = V.length ∧ S = mkS 139 [(2, .ptr 2 0), (3, .ptr 3 0), (5, .d (slF V)), (7, fV), (8, .d (.v (.int .i64 (((wl l t [] l1).length : Int) + 1)))), (11, .ptr 11 0), (16, .d (.v (.bool ((V.take k).any fun g => eqF p.1 g)))), (47, .d (sgD l b)), (48, .d (.v (.int .i64 l.length))), (49, .d (.v (.int .i64 (l1.length : Nat)))), (119, .d (slF V)), (120, .d (.v (.int .i64 V.length))), (121, .d (.v (.int .i64 (k : Nat))))] [(11, fB p.1), (2, .cells 24 [.d (sgD l b)]), (3, .cells 3 [.d (.v (.int .i64 t))])]) V.length
            (S0 := mkS 139 [(2, .ptr 2 0), (3, .ptr 3 0), (5, .d (slF V)), (7, fV), (8, .d (.v (.int .i64 (((wl l t [] l1).length : Int) + 1)))), (11, .ptr 11 0), (16, .d (.v (.bool false))), (47, .d (sgD l b)), (48, .d (.v (.int .i64 l.length))), (49, .d (.v (.int .i64 (l1.length : Nat)))), (119, .d (slF V)), (120, .d (.v (.int .i64 V.length))), (121, .d (.v (.int .i64 0)))] [(11, fB p.1), (2, .cells 24 [.d (sgD l b)]), (3, .cells 3 [.d (.v (.int .i64 t))])]) (Wk.lessE [] (by simp) (by simp)) ⟨0, by omega, rfl⟩ ?_
          rintro m _ ⟨k, hkm, rfl⟩
          simp -dsimp
          repeat (first | refine WP.seq ?_ | refine WP.block ?_ | (refine WP.region Tryd.tab ?_; simp -dsimp) | (refine WP.draw Tryd.tab Tryd.mixed ?_; simp -dsimp) | refine And.intro (by first | rfl | omega | decide | (simp; done) | (simp; omega) | (intro _ h; exact fcs_side h; done) | (intros; simp_all; done) | (intros; simp_all; omega)) ?_)
          by_cases hk : k < V.length
          · have e3 : IntKind.i64.wrap ((k : Int) + 1) = ((k + 1 : Nat) : Int) := by rw [IntWalk.i64_in _ (by omega)]; omega
            have h2 := fsC_at hk
            have og := hVo _ (fat_in hk)
            have htk : (V.take (k + 1)).any (fun g => eqF p.1 g) = ((V.take k).any (fun g => eqF p.1 g) || eqF p.1 (fat V k)) := by rw [take_fat hk]; simp
            generalize fat V k = g at h2 og htk
            generalize (V.take k).any (fun g => eqF p.1 g) = mt at htk
            have hsame := same_ok p.1 g hp.1 og
            refine WP.cond (b := true) (by simp; omega) (fun _ => ?_) (fun h => by cases h)
            refine WP.skip ?_
            simp -dsimp
            refine WP.seq (WP.block ?_)
            repeat (first | refine WP.seq ?_ | refine WP.block ?_ | (refine WP.region Tryd.tab ?_; simp -dsimp [h2]) | (refine WP.draw Tryd.tab Tryd.mixed ?_; simp -dsimp [h2]) | refine And.intro (by first | rfl | omega | decide | (simp; done) | (simp; omega) | (intro _ h; exact fcs_side h; done) | (intros; simp_all; done) | (intros; simp_all; omega)) ?_)
            refine vcStopG.call0 Tryd.body10 (fun _ => hsame) rfl (fun _ => rfl) (fun hg => by simp [hg, fD]) ?_
            simp -dsimp
            repeat (first | refine WP.seq ?_ | refine WP.block ?_ | (refine WP.region Tryd.tab ?_; simp -dsimp) | (refine WP.draw Tryd.tab Tryd.mixed ?_; simp -dsimp) | refine And.intro (by first | rfl | omega | decide | (simp; done) | (simp; omega) | (intro _ h; exact fcs_side h; done) | (intros; simp_all; done) | (intros; simp_all; omega)) ?_)
            refine loopW.next (mkS 139 [(2, .ptr 2 0), (3, .ptr 3 0), (5, .d (slF V)), (7, fV), (8, .d (.v (.int .i64 (((wl l t [] l1).length : Int) + 1)))), (11, .ptr 11 0), (16, .d (.v (.bool ((V.take (k + 1)).any fun g => eqF p.1 g)))), (47, .d (sgD l b)), (48, .d (.v (.int .i64 l.length))), (49, .d (.v (.int .i64 (l1.length : Nat)))), (119, .d (slF V)), (120, .d (.v (.int .i64 V.length))), (121, .d (.v (.int .i64 ((k + 1 : Nat) : Int))))] [(11, fB p.1), (2, .cells 24 [.d (sgD l b)]), (3, .cells 3 [.d (.v (.int .i64 t))])]) (Wk.lessE [18] (by simp [e3, htk]) (by simp)) (m - 1) (by omega) ⟨k + 1, by omega, rfl⟩
          · have hany : (V.take k).any (fun g => eqF p.1 g) = true := by
              rw [List.take_of_length_le (by omega), List.any_eq_true]
              exact ⟨p.1, hin, (eqF_iff hp.1 hp.1).2 rfl⟩
            refine WP.cond (b := false) (by simp; omega) (fun h => by cases h) (fun _ => ?_)
            refine WP.exit ?_
            simp -dsimp
            repeat (first | refine WP.seq ?_ | refine WP.block ?_ | (refine WP.region Tryd.tab ?_; simp -dsimp [hany]) | (refine WP.draw Tryd.tab Tryd.mixed ?_; simp -dsimp [hany]) | refine And.intro (by first | rfl | omega | decide | (simp; done) | (simp; omega) | (intro _ h; exact fcs_side h; done) | (intros; simp_all; done) | (intros; simp_all; omega)) ?_)
            refine WP.cond (b := false) (by simp [hany]) (fun h => by cases h) (fun _ => ?_)
            refine WP.skip ?_
            simp -dsimp
            repeat (first | refine WP.seq ?_ | refine WP.block ?_ | (refine WP.region Tryd.tab ?_; simp -dsimp) | (refine WP.draw Tryd.tab Tryd.mixed ?_; simp -dsimp) | refine And.intro (by first | rfl | omega | decide | (simp; done) | (simp; omega) | (intro _ h; exact fcs_side h; done) | (intros; simp_all; done) | (intros; simp_all; omega)) ?_)
            refine loopW.next (mkS 139 [(2, .ptr 2 0), (3, .ptr 3 0), (5, .d (slF V)), (7, fV), (8, .d (.v (.int .i64 ((wl l t [] (l1 ++ [p])).length : Nat)))), (47, .d (sgD l b)), (48, .d (.v (.int .i64 l.length))), (49, .d (.v (.int .i64 ((l1 ++ [p]).length : Nat))))] [(2, .cells 24 [.d (sgD l b)]), (3, .cells 3 [.d (.v (.int .i64 t))])]) (Wk.lessE [11] (by simp [e1, hwn]) (by simp)) l2.length (by simp) ⟨l1 ++ [p], l2, by simp [hl12], rfl, rfl⟩
      | cons q m2 =>
        have hml : l.length = m1.length + (m2.length + 1) := by rw [hm12]; simp
        have e2 : IntKind.i64.wrap ((m1.length : Int) + 1) = (m1.length : Int) + 1 := IntWalk.i64_in _ (by omega)
        have hq := hv q (by rw [hm12]; simp)
        have h2 := sgC_at (l1 := m1) (p := q) (l2 := m2) (by rw [← hm12]; exact hv)
        rw [← hm12] at h2
        have hfq := first_ok l b t q.1 hq.1 (by omega) hv
        have hsame := same_ok p.1 q.1 hp.1 hq.1
        have q57 : List.take 57 (List.take 61 (List.map AV.d (fcs q.1 0 57) ++ List.map AV.d q.2)) = (fcs q.1 0 57).map .d := by
          rw [List.take_take, ← List.map_append, ← List.map_take, List.take_append, fcs_len57, List.take_of_length_le (by rw [fcs_len57]; omega)]
          simp
        have qds : ∀ c ∈ List.take 61 (List.map AV.d (fcs q.1 0 57) ++ List.map AV.d q.2), ∃ d, c = AV.d d := fun c h => by
          rw [← List.map_append] at h
          obtain ⟨d, hd, rfl⟩ := List.mem_map.1 (List.mem_of_mem_take h)
          exact ⟨d, rfl⟩
        have qL : ∀ k, AV.hasL k (List.take 61 (List.map AV.d (fcs q.1 0 57) ++ List.map AV.d q.2)) = false := fun k => hasL_ds qds
        have qfs : ∀ a ∈ fcs q.1 0 57, oneD a = true := fun _ h => fcs_side h
        have qone : ∀ c ∈ List.take 61 (List.map AV.d (fcs q.1 0 57) ++ List.map AV.d q.2), oneA c = true := fun c h => by
          rw [← List.map_append] at h
          obtain ⟨d, hd, rfl⟩ := List.mem_map.1 (List.mem_of_mem_take h)
          rcases List.mem_append.1 hd with hd | hd
          · exact fcs_side hd
          · exact hq.2.2 d hd
        refine WP.cond (b := true) (by simp; omega) (fun _ => ?_) (fun h => by cases h)
        refine WP.skip ?_
        simp -dsimp
        refine WP.seq (WP.block ?_)
        repeat (first | refine WP.seq ?_ | refine WP.block ?_ | (refine WP.region Tryd.tab ?_; simp -dsimp [h2, hq.2.1, q57, qL]) | (refine WP.draw Tryd.tab Tryd.mixed ?_; simp -dsimp [h2, hq.2.1, q57, qL]) | refine And.intro (by first | rfl | omega | decide | (simp; done) | (simp; omega) | (intro _ h; exact fcs_side h; done) | (intros; simp_all; done) | (intros; simp_all; omega)) ?_)
        refine vcStopG.callSame (first := []) (caps := [.ptr 2 0, .ptr 3 0]) Tryd.body8 (fun _ => hfq) (rl [(1000, 2), (1001, 3)]) rfl (fun hg => by simp [hg, fnOf]) (fun hg => by simp [hg, fD]) (fun _ => CallOk.of (by simp [BoxLeq]) rfl (by first | rfl | (simp; done)) (by simp) (by simp)) (fun _ => by simp) ?_
        simp -dsimp
        repeat (first | refine WP.seq ?_ | refine WP.block ?_ | (refine WP.region Tryd.tab ?_; simp -dsimp) | (refine WP.draw Tryd.tab Tryd.mixed ?_; simp -dsimp) | refine And.intro (by first | rfl | omega | decide | (simp; done) | (simp; omega) | (intro _ h; exact fcs_side h; done) | (intros; simp_all; done) | (intros; simp_all; omega)) ?_)
        refine vcStopG.eqS Tryd.tab gokF noarrF rfl (.inl rfl) (m := 5) (by omega) key52 (by decide) gd52 st52 (cs := [.v (.int .i64 (q.1 55)), .v (.int .i64 (q.1 56))]) (es := [.v (.int .i64 (p.1 0)), .v (.int .i64 (p.1 1))]) (fun hg => by simp [hg]; exact Leq.aggD (fcs q.1 55 2)) (fun hg => by simp [hg]) (okRef (r := (q.1 55, q.1 56)) (hq.1.1 55) (hq.1.1 56)) (okRef (r := (p.1 0, p.1 1)) (hp.1.1 0) (hp.1.1 1)) litsRef ?_
        simp -dsimp [eqRes]
        repeat (first | refine WP.seq ?_ | refine WP.block ?_ | (refine WP.region Tryd.tab ?_; simp -dsimp) | (refine WP.draw Tryd.tab Tryd.mixed ?_; simp -dsimp) | refine And.intro (by first | rfl | omega | decide | (simp; done) | (simp; omega) | (intro _ h; exact fcs_side h; done) | (intros; simp_all; done) | (intros; simp_all; omega)) ?_)
        refine vcStopG.call0 Tryd.body10 (fun _ => hsame) rfl (fun _ => rfl) (fun hg => by simp [hg, fD]) ?_
        simp -dsimp
        repeat (first | refine WP.seq ?_ | refine WP.block ?_ | (refine WP.region Tryd.tab ?_; simp -dsimp) | (refine WP.draw Tryd.tab Tryd.mixed ?_; simp -dsimp) | refine And.intro (by first | rfl | omega | decide | (simp; done) | (simp; omega) | (intro _ h; exact fcs_side h; done) | (intros; simp_all; done) | (intros; simp_all; omega)) ?_)
        refine loopW.next (mkS 139 [(2, .ptr 2 0), (3, .ptr 3 0), (5, .d (slF V)), (7, fV), (8, .d (.v (.int .i64 ((wl l t [] l1).length : Nat)))), (9, .d (.v (.int .i64 (l1.length : Nat)))), (11, .ptr 11 0), (12, .d (.v (.bool (wantP l t p.1 l1.length (m1 ++ [q]))))), (47, .d (sgD l b)), (48, .d (.v (.int .i64 l.length))), (49, .d (.v (.int .i64 (l1.length : Nat)))), (65, .d (sgD l b)), (66, .d (.v (.int .i64 l.length))), (67, .d (.v (.int .i64 ((m1 ++ [q]).length : Nat))))] [(11, fB p.1), (2, .cells 24 [.d (sgD l b)]), (3, .cells 3 [.d (.v (.int .i64 t))])]) (Wk.lessE [14, 15] (by simp [e2, wantP_snoc, ← hw, voidT]) (by simp)) m2.length (by simp) ⟨m1 ++ [q], m2, _, by simp [hm12], rfl, rfl, rfl⟩
end Go.Proofs.YtghfancmonhkcaaDoor
