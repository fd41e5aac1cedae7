/-
  Joined texts.
-/
import Derived.Test.YtghfancmonhkcaaDoorKB
import Derived.Test.YtghfancmonhkcaaDoorKKp
import Derived.Test.YtghfancmonhkcaaDoorKI
import Derived.Test.YtghfancmonhkcaaDoorKD
set_option linter.unusedVariables false
set_option linter.unusedSimpArgs false
set_option linter.unusedSectionVars false
/-
  Ledgers: what LedgerJoined says, in plain lists.
-/
set_option linter.unusedSimpArgs false
set_option linter.unusedVariables false
namespace Go.Proofs.YtghfancmonhkcaaDoor
open Go.Xe Go.RowKit

theorem cmp_irr (a : F) : ¬ cmpF a a < 0 := fun h => by have := cmp_fact.anti a a; omega
theorem cmp_asy {a b : F} (h : cmpF a b < 0) : ¬ cmpF b a < 0 := fun h' => by have := cmp_fact.anti a b; omega
theorem asc_eq : ∀ {A B : List F}, A.Pairwise (fun a b => cmpF a b < 0) → B.Pairwise (fun a b => cmpF a b < 0) → (∀ x, x ∈ A ↔ x ∈ B) → A = B
  | [], [], _, _, _ => rfl
  | [], b :: B, _, _, h => absurd ((h b).2 (by simp)) (by simp)
  | a :: A, [], _, _, h => absurd ((h a).1 (by simp)) (by simp)
  | a :: A, b :: B, ha, hb, h => by
    obtain ⟨ha1, ha2⟩ := List.pairwise_cons.1 ha
    obtain ⟨hb1, hb2⟩ := List.pairwise_cons.1 hb
    have e : a = b := by
      rcases List.mem_cons.1 ((h a).1 (by simp)) with e | h1
      · exact e
      · rcases List.mem_cons.1 ((h b).2 (by simp)) with e | h2
        · exact e.symm
        · exact absurd (hb1 a h1) (cmp_asy (ha1 b h2))
    subst e
    rw [asc_eq ha2 hb2 fun x => ?_]
    constructor
    · intro hx
      rcases List.mem_cons.1 ((h x).1 (by simp [hx])) with e | h1
      · subst e; exact absurd (ha1 x hx) (cmp_irr _)
      · exact h1
    · intro hx
      rcases List.mem_cons.1 ((h x).2 (by simp [hx])) with e | h1
      · subst e; exact absurd (hb1 x hx) (cmp_irr _)
      · exact h1
theorem cpl_mono {R R' : List (Int × Int)} {c : Int} (h : ∀ p ∈ R, p ∈ R') : cplL R c ≤ cplL R' c := by
  rcases Nat.lt_or_ge (cplL R' c) (cplL R c) with hl | hl
  · exact absurd (h _ ((cpl_spec R c).1 _ hl)) (cpl_spec R' c).2
  · exact hl
theorem cplV_mono {A B : List F} (h : ∀ f ∈ A, f ∈ B) (c : Int) : cplV A c ≤ cplV B c := by
  refine cpl_mono fun p hp => ?_
  rw [rfs_all] at hp ⊢
  obtain ⟨g, hg, e⟩ := hp
  exact ⟨g, h g hg, e⟩
theorem app_ok {a b : List Sg} (ha : ∀ p ∈ a, sgOk p) (hb : ∀ p ∈ b, sgOk p) : ∀ p ∈ a ++ b, sgOk p := fun p h => by
  rcases List.mem_append.1 h with h | h
  · exact ha p h
  · exact hb p h
theorem valL_left {a b : List Sg} (ha : ∀ p ∈ a, sgOk p) (hb : ∀ p ∈ b, sgOk p) : ∀ f ∈ valL a, f ∈ valL (a ++ b) := fun f hf => by
  rw [(valL_facts (app_ok ha hb)).1, vF_in]
  rw [(valL_facts ha).1, vF_in] at hf
  obtain ⟨⟨p, h1, h2⟩, h3⟩ := hf
  exact ⟨⟨p, by simp [h1], h2⟩, h3⟩
theorem valL_right {a b : List Sg} (ha : ∀ p ∈ a, sgOk p) (hb : ∀ p ∈ b, sgOk p) : ∀ f ∈ valL b, f ∈ valL (a ++ b) := fun f hf => by
  rw [(valL_facts (app_ok ha hb)).1, vF_in]
  rw [(valL_facts hb).1, vF_in] at hf
  obtain ⟨⟨p, h1, h2⟩, h3⟩ := hf
  exact ⟨⟨p, by simp [h1], h2⟩, h3⟩
theorem view_fOk {l : List Sg} (hv : ∀ p ∈ l, sgOk p) {t : Int} : ∀ f ∈ viewL t (valL l), fOk f := fun f h => ((valL_facts hv).2.2.2 f ((view_sub t _).subset h)).1
theorem view_refs {l : List Sg} (hv : ∀ p ∈ l, sgOk p) {t : Int} {f g : F} (hf : f ∈ viewL t (valL l)) (hg : g ∈ viewL t (valL l)) (hr : refF f = refF g) : f = g := by
  have of := view_fOk hv f hf
  have og := view_fOk hv g hg
  obtain ⟨⟨p, hp, rfl⟩, ⟨_, nf, h1⟩, _, _⟩ := (force_iff hv t f).1 hf
  obtain ⟨⟨q, hq, rfl⟩, ⟨_, ng, h2⟩, _, _⟩ := (force_iff hv t g).1 hg
  have a := h1 q hq hr.symm ng
  have b := h2 p hp hr nf
  have c := cmp_fact.anti p.1 q.1
  exact (cmp_zero of og nf ng).1 (by omega)
theorem view_raw {l : List Sg} (hv : ∀ p ∈ l, sgOk p) (t : Int) : viewL t (valL (rawL (viewL t (valL l)))) = viewL t (valL l) := by
  have ho := view_fOk hv (t := t)
  have hr := rawL_ok ho
  refine asc_eq (view_asc hr t) (view_asc hv t) fun x => ?_
  rw [force_iff hr]
  have hm : ∀ p, p ∈ rawL (viewL t (valL l)) → p.1 ∈ viewL t (valL l) := fun p hp => by
    obtain ⟨f, hf, rfl⟩ := List.mem_map.1 hp; exact hf
  constructor
  · rintro ⟨⟨p, hp, rfl⟩, _⟩; exact hm p hp
  · intro hx
    obtain ⟨_, ⟨h1, h2, h3⟩, h4, _⟩ := (force_iff hv t x).1 hx
    refine ⟨⟨(x, zs), List.mem_map.2 ⟨x, hx, rfl⟩, rfl⟩, ⟨h1, h2, fun p hp hq hn hc => ?_⟩, h4, fun p hp hh => ?_⟩
    · rw [view_refs hv (hm p hp) hx hq] at hc
      exact cmp_irr _ hc
    · obtain ⟨_, _, h5, _⟩ := (force_iff hv t p.1).1 (hm p hp)
      exact h5 hh.1
end Go.Proofs.YtghfancmonhkcaaDoor

/-
  Ledgers: lists of facts that are the same.
-/
set_option linter.unusedSimpArgs false
set_option linter.unusedVariables false
namespace Go.Proofs.YtghfancmonhkcaaDoor
open Go.Xe Go.RowKit

set_option maxRecDepth 10000 in
set_option maxHeartbeats 4000000 in
theorem sameF_ok (V : List F) (hl : V.length ≤ 14) (ho : ∀ f ∈ V, fOk f) : Fn0 Tryd.prog 12 [.sl 57 (fsC V) V.length false, .sl 57 (fsC V) V.length false] (.v (.bool true)) := by
  refine Fun.of_wp (pn := noPn) Tryd.tab Tryd.func12 rfl fun β0 => ?_
  simp only [Tryd.f12]
  repeat (first | refine WP.seq ?_ | refine WP.block ?_ | (refine WP.region Tryd.tab ?_; simp -dsimp) | (refine WP.draw Tryd.tab Tryd.mixed ?_; simp -dsimp) | refine And.intro (by first | rfl | omega | decide | (simp; done) | (simp; omega) | (intro _ h; exact fcs_side h; done) | (intros; simp_all; done) | (intros; simp_all; omega)) ?_)
  refine WP.cond (b := false) (by simp) (fun h => by cases h) (fun _ => ?_)
  refine WP.skip ?_
  simp -dsimp
  repeat (first | refine WP.seq ?_ | refine WP.block ?_ | (refine WP.region Tryd.tab ?_; simp -dsimp) | (refine WP.draw Tryd.tab Tryd.mixed ?_; simp -dsimp) | refine And.intro (by first | rfl | omega | decide | (simp; done) | (simp; omega) | (intro _ h; exact fcs_side h; done) | (intros; simp_all; done) | (intros; simp_all; omega)) ?_)
  refine WP.loopWk (fun m S => ∃ i, i + m = V.length ∧ S = mkS 26 [(0, .d (.sl 57 (fsC V) V.length false)), (1, .d (.sl 57 (fsC V) V.length false)), (5, .d (.v (.int .i64 (i : Nat))))] []) V.length
    (S0 := mkS 26 [(0, .d (.sl 57 (fsC V) V.length false)), (1, .d (.sl 57 (fsC V) V.length false)), (5, .d (.v (.int .i64 0)))] []) (Wk.lessE [] (by simp) (by simp)) ⟨0, by omega, rfl⟩ ?_
  rintro m _ ⟨i, him, rfl⟩
  simp -dsimp
  repeat (first | refine WP.seq ?_ | refine WP.block ?_ | (refine WP.region Tryd.tab ?_; simp -dsimp) | (refine WP.draw Tryd.tab Tryd.mixed ?_; simp -dsimp) | refine And.intro (by first | rfl | omega | decide | (simp; done) | (simp; omega) | (intro _ h; exact fcs_side h; done) | (intros; simp_all; done) | (intros; simp_all; omega)) ?_)
  by_cases hi : i < V.length
  · have e1 : IntKind.i64.wrap ((i : Int) + 1) = ((i + 1 : Nat) : Int) := by rw [IntWalk.i64_in _ (by omega)]; omega
    have h1 := fsC_at hi
    have hfo := ho _ (fat_in hi)
    generalize fat V i = f at h1 hfo
    refine WP.cond (b := true) (by simp; omega) (fun _ => ?_) (fun h => by cases h)
    refine WP.skip ?_
    simp -dsimp
    refine WP.seq (WP.block ?_)
    repeat (first | refine WP.seq ?_ | refine WP.block ?_ | (refine WP.region Tryd.tab ?_; simp -dsimp [h1]) | (refine WP.draw Tryd.tab Tryd.mixed ?_; simp -dsimp [h1]) | refine And.intro (by first | rfl | omega | decide | (simp; done) | (simp; omega) | (intro _ h; exact fcs_side h; done) | (intros; simp_all; done) | (intros; simp_all; omega)) ?_)
    refine vcStop.eqS Tryd.tab gokF noarrF rfl (.inr rfl) (m := 5) (by omega) Tryd.key47 (by decide) Tryd.gd47 st47 (cs := fcs f 0 57) (es := fcs f 0 57) (by simp [h1]) (by simp [h1]) (okF hfo.1) (okF hfo.1) (r := true) (by simp) ?_
    simp -dsimp [eqRes]
    repeat (first | refine WP.seq ?_ | refine WP.block ?_ | (refine WP.region Tryd.tab ?_; simp -dsimp) | (refine WP.draw Tryd.tab Tryd.mixed ?_; simp -dsimp) | refine And.intro (by first | rfl | omega | decide | (simp; done) | (simp; omega) | (intro _ h; exact fcs_side h; done) | (intros; simp_all; done) | (intros; simp_all; omega)) ?_)
    refine WP.cond (b := false) (by simp) (fun h => by cases h) (fun _ => ?_)
    refine WP.skip ?_
    simp -dsimp
    repeat (first | refine WP.seq ?_ | refine WP.block ?_ | (refine WP.region Tryd.tab ?_; simp -dsimp) | (refine WP.draw Tryd.tab Tryd.mixed ?_; simp -dsimp) | refine And.intro (by first | rfl | omega | decide | (simp; done) | (simp; omega) | (intro _ h; exact fcs_side h; done) | (intros; simp_all; done) | (intros; simp_all; omega)) ?_)
    refine loopW.next (mkS 26 [(0, .d (.sl 57 (fsC V) V.length false)), (1, .d (.sl 57 (fsC V) V.length false)), (5, .d (.v (.int .i64 ((i + 1 : Nat) : Int))))] []) (Wk.lessE [] (by simp [e1]) (by simp)) (m - 1) (by omega) ⟨i + 1, by omega, rfl⟩
  · refine WP.cond (b := false) (by simp; omega) (fun h => by cases h) (fun _ => ?_)
    refine WP.exit ?_
    simp -dsimp
    repeat (first | refine WP.seq ?_ | refine WP.block ?_ | (refine WP.region Tryd.tab ?_; simp -dsimp) | (refine WP.draw Tryd.tab Tryd.mixed ?_; simp -dsimp) | refine And.intro (by first | rfl | omega | decide | (simp; done) | (simp; omega) | (intro _ h; exact fcs_side h; done) | (intros; simp_all; done) | (intros; simp_all; omega)) ?_)
    refine WP.ret (finQ.retE ?_)
    simp -dsimp
end Go.Proofs.YtghfancmonhkcaaDoor

/-
  Ledgers: LedgerJoined.
-/
set_option linter.unusedSimpArgs false
set_option linter.unusedVariables false
namespace Go.Proofs.YtghfancmonhkcaaDoor
open Go.Xe Go.RowKit

theorem fsC_takeA (l : List F) (i : Nat) : ((fsC l).map AV.d).take (i * 57) = (fsC (l.take i)).map .d := by rw [← List.map_take, fsC_take]
set_option maxRecDepth 10000 in
set_option maxHeartbeats 4000000 in
theorem joined_ok (a b : List Sg) (ba bb : Bool) (t c : Int) (hc : isI c) (ha : ∀ p ∈ a, sgOk p) (hb : ∀ p ∈ b, sgOk p) (hal : a.length ≤ 1000000000000) (hbl : b.length ≤ 1000000000000) : Fn0 Tryd.prog 4 [lgD a ba, lgD b bb, .v (.int .i64 t), .v (.int .i64 c)] (.v (.bool true)) := by
  have e0 : IntKind.i64.wrap ((a.length : Int) + b.length) = (a.length : Int) + b.length := IntWalk.i64_in _ (by omega)
  refine Fun.of_wp (pn := noPn) Tryd.tab Tryd.func4 rfl fun β0 => ?_
  simp only [Tryd.f4]
  repeat (first | refine WP.seq ?_ | refine WP.block ?_ | (refine WP.region Tryd.tab ?_; simp -dsimp) | (refine WP.draw Tryd.tab Tryd.mixed ?_; simp -dsimp) | refine And.intro (by first | rfl | omega | decide | (simp; done) | (simp; omega) | (intro _ h; exact fcs_side h; done) | (intros; simp_all; done) | (intros; simp_all; omega)) ?_)
  refine vcStop.call0 Tryd.body5 sane_ok rfl rfl (by simp) ?_
  simp -dsimp
  repeat (first | refine WP.seq ?_ | refine WP.block ?_ | (refine WP.region Tryd.tab ?_; simp -dsimp) | (refine WP.draw Tryd.tab Tryd.mixed ?_; simp -dsimp) | refine And.intro (by first | rfl | omega | decide | (simp; done) | (simp; omega) | (intro _ h; exact fcs_side h; done) | (intros; simp_all; done) | (intros; simp_all; omega)) ?_)
  refine WP.cond (b := false) (by simp) (fun h => by cases h) (fun _ => ?_)
  refine WP.skip ?_
  simp -dsimp
  repeat (first | refine WP.seq ?_ | refine WP.block ?_ | (refine WP.region Tryd.tab ?_; simp -dsimp [e0]) | (refine WP.draw Tryd.tab Tryd.mixed ?_; simp -dsimp [e0]) | refine And.intro (by first | rfl | omega | decide | (simp; done) | (simp; omega) | (intro _ h; exact fcs_side h; done) | (intros; simp_all; done) | (intros; simp_all; omega)) ?_)
  by_cases hl : 14 < a.length + b.length
  · refine WP.cond (b := true) (by simp; omega) (fun _ => ?_) (fun h => by cases h)
    repeat (first | refine WP.seq ?_ | refine WP.block ?_ | (refine WP.region Tryd.tab ?_; simp -dsimp) | (refine WP.draw Tryd.tab Tryd.mixed ?_; simp -dsimp) | refine And.intro (by first | rfl | omega | decide | (simp; done) | (simp; omega) | (intro _ h; exact fcs_side h; done) | (intros; simp_all; done) | (intros; simp_all; omega)) ?_)
    refine WP.ret (finQ.retE ?_)
    simp -dsimp
  refine WP.cond (b := false) (by simp; omega) (fun h => by cases h) (fun _ => ?_)
  refine WP.skip ?_
  simp -dsimp
  have hsa := sgC_len ha
  have hsb := sgC_len hb
  refine WP.seq ?_
  refine WP.draw Tryd.tab Tryd.mixed ?_
  simp -dsimp
  repeat refine And.intro (by first | rfl | omega | decide | (simp; done) | (simp; omega) | (intro _ h; exact fcs_side h; done) | (intros; simp_all; done) | (intros; simp_all; omega)) ?_
  have hab := app_ok ha hb
  have hv := valL_facts hab
  have hlen : (a ++ b).length = a.length + b.length := List.length_append
  refine WP.weak ((Wk.lessE [] (S' := mkS 89 [(2, .d (.v (.int .i64 t))), (3, .d (.v (.int .i64 c))), (4, .ptr 4 0), (5, .ptr 5 0), (9, .ptr 9 0)] [(4, .cells 24 [.d (sgD a ba)]), (5, .cells 24 [.d (sgD b bb)]), (32, .row 59 61 (a ++ b).length ((sgC (a ++ b)).map .d)), (9, .cells 24 [.row 32])]) (by simp) (by simp [sgC_append])).trans (Wk.freeze (k := 32) (T := 59) (sz := 61) (n := (a ++ b).length) (ds := sgC (a ++ b)) (by simp))) ?_
  have hca := valL_left ha hb
  have hcb := valL_right ha hb
  have hcab := complete_ok (a ++ b) false c hc (by omega) hab (by omega) (fun f hf => (hv.2.2.2 f hf).1)
  have hvab := view_ok (a ++ b) false t (by omega) hab (by omega) (fun f hf => (hv.2.2.2 f hf).1)
  have hrefs := fun f g => view_refs hab (t := t) (f := f) (g := g)
  have hraw := view_raw hab t
  have hasc := view_asc hab t
  have hVl : (viewL t (valL (a ++ b))).length ≤ 14 := by
    have := (view_sub t (valL (a ++ b))).length_le
    have := hv.2.2.1
    omega
  have hVo := view_fOk hab (t := t)
  generalize a ++ b = ab at hab hv hlen hcab hvab hrefs hraw hasc hVl hVo hca hcb
  have hga : cplV (valL a) c ≤ cplV (valL ab) c := cplV_mono hca c
  have hgb : cplV (valL b) c ≤ cplV (valL ab) c := cplV_mono hcb c
  simp -dsimp
  repeat (first | refine WP.seq ?_ | refine WP.block ?_ | (refine WP.region Tryd.tab ?_; simp -dsimp) | (refine WP.draw Tryd.tab Tryd.mixed ?_; simp -dsimp) | refine And.intro (by first | rfl | omega | decide | (simp; done) | (simp; omega) | (intro _ h; exact fcs_side h; done) | (intros; simp_all; done) | (intros; simp_all; omega)) ?_)
  refine vcStop.call0L Tryd.body11 hcab rfl rfl (And.intro (Leq.aggD [sgD ab false]) (And.intro (.refl _) trivial)) ?_
  simp -dsimp
  repeat (first | refine WP.seq ?_ | refine WP.block ?_ | (refine WP.region Tryd.tab ?_; simp -dsimp) | (refine WP.draw Tryd.tab Tryd.mixed ?_; simp -dsimp) | refine And.intro (by first | rfl | omega | decide | (simp; done) | (simp; omega) | (intro _ h; exact fcs_side h; done) | (intros; simp_all; done) | (intros; simp_all; omega)) ?_)
  refine vcStop.call0L Tryd.body6 hvab rfl rfl (And.intro (Leq.aggD [sgD ab false]) (And.intro (.refl _) trivial)) ?_
  generalize viewL t (valL ab) = V at hrefs hraw hasc hVl hVo
  generalize cplV (valL ab) c = n at hga hgb
  simp -dsimp
  repeat (first | refine WP.seq ?_ | refine WP.block ?_ | (refine WP.region Tryd.tab ?_; simp -dsimp) | (refine WP.draw Tryd.tab Tryd.mixed ?_; simp -dsimp) | refine And.intro (by first | rfl | omega | decide | (simp; done) | (simp; omega) | (intro _ h; exact fcs_side h; done) | (intros; simp_all; done) | (intros; simp_all; omega)) ?_)
  refine WP.loopWk (fun m S => ∃ i : Nat, i + m = V.length ∧ S = mkS 89 [(2, .d (.v (.int .i64 t))), (3, .d (.v (.int .i64 c))), (4, .ptr 4 0), (5, .ptr 5 0), (10, .d (.v (.int .i64 n))), (11, .d (slF V)), (40, .d (slF V)), (41, .d (.v (.int .i64 V.length))), (42, .d (.v (.int .i64 (i : Nat))))] [(4, .cells 24 [.d (sgD a ba)]), (5, .cells 24 [.d (sgD b bb)])]) V.length
    (S0 := mkS 89 [(2, .d (.v (.int .i64 t))), (3, .d (.v (.int .i64 c))), (4, .ptr 4 0), (5, .ptr 5 0), (10, .d (.v (.int .i64 n))), (11, .d (slF V)), (40, .d (slF V)), (41, .d (.v (.int .i64 V.length))), (42, .d (.v (.int .i64 0)))] [(4, .cells 24 [.d (sgD a ba)]), (5, .cells 24 [.d (sgD b bb)])]) (Wk.lessE [9] (by simp) (by simp)) ⟨0, by omega, rfl⟩ ?_
  rintro m _ ⟨i, him, rfl⟩
  simp -dsimp
  repeat (first | refine WP.seq ?_ | refine WP.block ?_ | (refine WP.region Tryd.tab ?_; simp -dsimp) | (refine WP.draw Tryd.tab Tryd.mixed ?_; simp -dsimp) | refine And.intro (by first | rfl | omega | decide | (simp; done) | (simp; omega) | (intro _ h; exact fcs_side h; done) | (intros; simp_all; done) | (intros; simp_all; omega)) ?_)
  by_cases hi : i < V.length
  · have e1 : IntKind.i64.wrap ((i : Int) + 1) = ((i + 1 : Nat) : Int) := by rw [IntWalk.i64_in _ (by omega)]; omega
    have h1 := fsC_at hi
    have hfo := hVo _ (fat_in hi)
    have hne : ∀ k, k < i → ¬ (fat V i 0 = fat V k 0 ∧ fat V i 1 = fat V k 1) := fun k hk ⟨h2, h3⟩ => by
      have hkl : k < V.length := by omega
      have he := hrefs _ _ (fat_in hi) (fat_in hkl) (Prod.ext h2 h3)
      have hlt : cmpF (fat V k) (fat V i) < 0 := by
        unfold fat
        rw [getD_at hkl, getD_at hi]
        exact List.pairwise_iff_getElem.1 hasc k i hkl hi hk
      rw [he] at hlt
      exact cmp_irr _ hlt
    generalize fat V i = f at h1 hfo hne
    refine WP.cond (b := true) (by simp; omega) (fun _ => ?_) (fun h => by cases h)
    refine WP.skip ?_
    simp -dsimp
    refine WP.seq (WP.block ?_)
    repeat (first | refine WP.seq ?_ | refine WP.block ?_ | (refine WP.region Tryd.tab ?_; simp -dsimp [h1]) | (refine WP.draw Tryd.tab Tryd.mixed ?_; simp -dsimp [h1]) | refine And.intro (by first | rfl | omega | decide | (simp; done) | (simp; omega) | (intro _ h; exact fcs_side h; done) | (intros; simp_all; done) | (intros; simp_all; omega)) ?_)
    refine WP.loopWk (fun m S => ∃ k : Nat, k + m = i ∧ S = mkS 89 [(2, .d (.v (.int .i64 t))), (3, .d (.v (.int .i64 c))), (4, .ptr 4 0), (5, .ptr 5 0), (10, .d (.v (.int .i64 n))), (11, .d (slF V)), (13, .ptr 13 0), (40, .d (slF V)), (41, .d (.v (.int .i64 V.length))), (42, .d (.v (.int .i64 (i : Nat)))), (49, .d (.sl 57 (fsC (V.take i)) i false)), (50, .d (.v (.int .i64 (i : Nat)))), (51, .d (.v (.int .i64 (k : Nat))))] [(4, .cells 24 [.d (sgD a ba)]), (5, .cells 24 [.d (sgD b bb)]), (13, fB f)]) i
      (S0 := mkS 89 [(2, .d (.v (.int .i64 t))), (3, .d (.v (.int .i64 c))), (4, .ptr 4 0), (5, .ptr 5 0), (10, .d (.v (.int .i64 n))), (11, .d (slF V)), (13, .ptr 13 0), (40, .d (slF V)), (41, .d (.v (.int .i64 V.length))), (42, .d (.v (.int .i64 (i : Nat)))), (49, .d (.sl 57 (fsC (V.take i)) i false)), (50, .d (.v (.int .i64 (i : Nat)))), (51, .d (.v (.int .i64 0)))] [(4, .cells 24 [.d (sgD a ba)]), (5, .cells 24 [.d (sgD b bb)]), (13, fB f)]) (Wk.lessE [] (by simp [← fsC_take]) (by simp)) ⟨0, by omega, rfl⟩ ?_
    rintro m2 _ ⟨k, hkm, rfl⟩
    simp -dsimp
    repeat (first | refine WP.seq ?_ | refine WP.block ?_ | (refine WP.region Tryd.tab ?_; simp -dsimp) | (refine WP.draw Tryd.tab Tryd.mixed ?_; simp -dsimp) | refine And.intro (by first | rfl | omega | decide | (simp; done) | (simp; omega) | (intro _ h; exact fcs_side h; done) | (intros; simp_all; done) | (intros; simp_all; omega)) ?_)
    by_cases hk : k < i
    · have e2 : IntKind.i64.wrap ((k : Int) + 1) = ((k + 1 : Nat) : Int) := by rw [IntWalk.i64_in _ (by omega)]; omega
      have hkt : k < (V.take i).length := by rw [List.length_take]; omega
      have h2 := fsC_at hkt
      have hfk : fat (V.take i) k = fat V k := by
        unfold fat
        rw [List.getD_eq_getElem?_getD, List.getD_eq_getElem?_getD, List.getElem?_take_of_lt hk]
      rw [hfk] at h2
      have hn := hne k hk
      generalize fat V k = g at h2 hn
      refine WP.cond (b := true) (by simp; omega) (fun _ => ?_) (fun h => by cases h)
      refine WP.skip ?_
      simp -dsimp
      refine WP.seq (WP.block ?_)
      repeat (first | refine WP.seq ?_ | refine WP.block ?_ | (refine WP.region Tryd.tab ?_; simp -dsimp [h2]) | (refine WP.draw Tryd.tab Tryd.mixed ?_; simp -dsimp [h2]) | refine And.intro (by first | rfl | omega | decide | (simp; done) | (simp; omega) | (intro _ h; exact fcs_side h; done) | (intros; simp_all; done) | (intros; simp_all; omega)) ?_)
      refine WP.cond (b := false) (by simp; exact fun h => fun h' => hn ⟨h, h'⟩) (fun h => by cases h) (fun _ => ?_)
      refine WP.skip ?_
      simp -dsimp
      repeat (first | refine WP.seq ?_ | refine WP.block ?_ | (refine WP.region Tryd.tab ?_; simp -dsimp) | (refine WP.draw Tryd.tab Tryd.mixed ?_; simp -dsimp) | refine And.intro (by first | rfl | omega | decide | (simp; done) | (simp; omega) | (intro _ h; exact fcs_side h; done) | (intros; simp_all; done) | (intros; simp_all; omega)) ?_)
      refine loopW.next (mkS 89 [(2, .d (.v (.int .i64 t))), (3, .d (.v (.int .i64 c))), (4, .ptr 4 0), (5, .ptr 5 0), (10, .d (.v (.int .i64 n))), (11, .d (slF V)), (13, .ptr 13 0), (40, .d (slF V)), (41, .d (.v (.int .i64 V.length))), (42, .d (.v (.int .i64 (i : Nat)))), (49, .d (.sl 57 (fsC (V.take i)) i false)), (50, .d (.v (.int .i64 (i : Nat)))), (51, .d (.v (.int .i64 ((k + 1 : Nat) : Int))))] [(4, .cells 24 [.d (sgD a ba)]), (5, .cells 24 [.d (sgD b bb)]), (13, fB f)]) (Wk.lessE [15] (by simp [e2]) (by simp)) (m2 - 1) (by omega) ⟨k + 1, by omega, rfl⟩
    · refine WP.cond (b := false) (by simp; omega) (fun h => by cases h) (fun _ => ?_)
      refine WP.exit ?_
      simp -dsimp
      repeat (first | refine WP.seq ?_ | refine WP.block ?_ | (refine WP.region Tryd.tab ?_; simp -dsimp) | (refine WP.draw Tryd.tab Tryd.mixed ?_; simp -dsimp) | refine And.intro (by first | rfl | omega | decide | (simp; done) | (simp; omega) | (intro _ h; exact fcs_side h; done) | (intros; simp_all; done) | (intros; simp_all; omega)) ?_)
      refine loopW.next (mkS 89 [(2, .d (.v (.int .i64 t))), (3, .d (.v (.int .i64 c))), (4, .ptr 4 0), (5, .ptr 5 0), (10, .d (.v (.int .i64 n))), (11, .d (slF V)), (40, .d (slF V)), (41, .d (.v (.int .i64 V.length))), (42, .d (.v (.int .i64 ((i + 1 : Nat) : Int))))] [(4, .cells 24 [.d (sgD a ba)]), (5, .cells 24 [.d (sgD b bb)])]) (Wk.lessE [13] (by simp [e1]) (by simp)) (m - 1) (by omega) ⟨i + 1, by omega, rfl⟩
  · refine WP.cond (b := false) (by simp; omega) (fun h => by cases h) (fun _ => ?_)
    refine WP.exit ?_
    simp -dsimp
    repeat (first | refine WP.seq ?_ | refine WP.block ?_ | (refine WP.region Tryd.tab ?_; simp -dsimp) | (refine WP.draw Tryd.tab Tryd.mixed ?_; simp -dsimp) | refine And.intro (by first | rfl | omega | decide | (simp; done) | (simp; omega) | (intro _ h; exact fcs_side h; done) | (intros; simp_all; done) | (intros; simp_all; omega)) ?_)
    have ho : ∀ {l : List Sg}, (∀ p ∈ l, sgOk p) → ∀ f ∈ valL l, fOk f := fun h f hf => ((valL_facts h).2.2.2 f hf).1
    have hla := (valL_facts ha).2.2.1
    have hlb := (valL_facts hb).2.2.1
    refine vcStop.call0L Tryd.body11 (complete_ok a ba c hc (by omega) ha (by omega) (ho ha)) rfl rfl (And.intro (Leq.aggD [sgD a ba]) (And.intro (.refl _) trivial)) ?_
    simp -dsimp [hga]
    repeat (first | refine WP.seq ?_ | refine WP.block ?_ | (refine WP.region Tryd.tab ?_; simp -dsimp [hga]) | (refine WP.draw Tryd.tab Tryd.mixed ?_; simp -dsimp [hga]) | refine And.intro (by first | rfl | omega | decide | (simp; done) | (simp; omega) | (intro _ h; exact fcs_side h; done) | (intros; simp_all; done) | (intros; simp_all; omega)) ?_)
    refine vcStopG.call0L Tryd.body11 (fun _ => complete_ok b bb c hc (by omega) hb (by omega) (ho hb)) rfl (fun _ => rfl) (fun hg => And.intro (Leq.aggD [sgD b bb]) (And.intro (.refl _) trivial)) ?_
    simp -dsimp [hgb]
    repeat (first | refine WP.seq ?_ | refine WP.block ?_ | (refine WP.region Tryd.tab ?_; simp -dsimp [hgb]) | (refine WP.draw Tryd.tab Tryd.mixed ?_; simp -dsimp [hgb]) | refine And.intro (by first | rfl | omega | decide | (simp; done) | (simp; omega) | (intro _ h; exact fcs_side h; done) | (intros; simp_all; done) | (intros; simp_all; omega)) ?_)
    have hrV := rawL_ok hVo
    have hlr := (valL_facts hrV).2.2.1
    rw [rawL_len] at hlr
    have hvw := view_ok (rawL V) false t (by rw [rawL_len]; omega) hrV (by omega) (ho hrV)
    rw [hraw] at hvw
    refine vcStopG.call0 Tryd.body13 (fun _ => raw_ok V hVl hVo) rfl (fun _ => rfl) (fun hg => by simp) ?_
    simp -dsimp
    repeat (first | refine WP.seq ?_ | refine WP.block ?_ | (refine WP.region Tryd.tab ?_; simp -dsimp) | (refine WP.draw Tryd.tab Tryd.mixed ?_; simp -dsimp) | refine And.intro (by first | rfl | omega | decide | (simp; done) | (simp; omega) | (intro _ h; exact fcs_side h; done) | (intros; simp_all; done) | (intros; simp_all; omega)) ?_)
    refine vcStopG.call0 Tryd.body6 (fun _ => hvw) rfl (fun _ => rfl) (fun hg => by simp) ?_
    simp -dsimp
    repeat (first | refine WP.seq ?_ | refine WP.block ?_ | (refine WP.region Tryd.tab ?_; simp -dsimp) | (refine WP.draw Tryd.tab Tryd.mixed ?_; simp -dsimp) | refine And.intro (by first | rfl | omega | decide | (simp; done) | (simp; omega) | (intro _ h; exact fcs_side h; done) | (intros; simp_all; done) | (intros; simp_all; omega)) ?_)
    refine vcStopG.call0 Tryd.body12 (fun _ => sameF_ok V hVl hVo) rfl (fun _ => rfl) (fun hg => by simp) ?_
    simp -dsimp
    repeat (first | refine WP.seq ?_ | refine WP.block ?_ | (refine WP.region Tryd.tab ?_; simp -dsimp) | (refine WP.draw Tryd.tab Tryd.mixed ?_; simp -dsimp) | refine And.intro (by first | rfl | omega | decide | (simp; done) | (simp; omega) | (intro _ h; exact fcs_side h; done) | (intros; simp_all; done) | (intros; simp_all; omega)) ?_)
    refine WP.ret (finQ.retE ?_)
    simp -dsimp
end Go.Proofs.YtghfancmonhkcaaDoor
