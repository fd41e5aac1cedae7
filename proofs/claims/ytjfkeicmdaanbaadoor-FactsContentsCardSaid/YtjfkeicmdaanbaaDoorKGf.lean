/-
  The law on what an encoding holds.
-/
import Derived.Test.YtjfkeicmdaanbaaDoorKGa
set_option linter.unusedSectionVars false
set_option linter.unusedSimpArgs false
set_option linter.unusedVariables false
namespace Go.Proofs.YtjfkeicmdaanbaaDoor
open Go.Xe Go.RowKit

def szC : List AV := [.d (.v (.int .i64 0)), .d (.v (.int .i64 8)), .d (.v (.int .i64 4)), .d (.v (.int .i64 5)), .d (.v (.int .i64 8)), .d (.v (.int .i64 4)), .d (.v (.int .i64 4)), .d (.v (.int .i64 2)), .d (.v (.int .i64 4)), .d (.v (.int .i64 4)), .d (.v (.int .i64 6)), .d (.v (.int .i64 2)), .d (.v (.int .i64 0)), .d (.v (.int .i64 2))]
theorem entsR_len (r : Int) : (entsR r).length = 6 := by
  unfold entsR
  split <;> simp
theorem sz_of {k r : Int} {E : List Ent} (h : ents k r = some E) : 1 ≤ k ∧ k ≤ 13 ∧ atL szC k.toNat = .d (.v (.int .i64 (E.length : Int))) := by
  rcases kind_of h with rfl | rfl | rfl | rfl | rfl | rfl | rfl | rfl | rfl | rfl | rfl | rfl | rfl <;> simp [ents] at h <;> subst h <;> first | (refine ⟨by decide, by decide, rfl⟩; done) | (rw [entsR_len]; exact ⟨by decide, by decide, rfl⟩)
theorem num_list {f : Nat → Int} (v : (numF f).2 = true) : ∃ r E, ents (f 3) (f 49) = some E ∧ (numF f).1 = f 3 :: f 0 :: f 1 :: f 2 :: r ∧ r.length = E.length := by
  unfold numF at v ⊢
  cases hE : ents (f 3) (f 49) with
  | none => rw [hE] at v; simp at v
  | some E =>
    rw [hE] at v
    simp only at v ⊢
    split at v
    · rename_i hc
      rw [if_pos hc]
      exact ⟨E.map (valE f (susp f)), E, rfl, by simp [headE, valE], by simp⟩
    · simp at v
def sK (f : Nat → Int) (l l1 : List Int): St :=
  mkS 107 [(1, .ptr 1 0), (5, .ptr 5 0), (59, .d (.sl 4 (V.cellsL (l.map intV)) l.length false)), (60, .d (.v (.int .i64 l.length))), (61, .d (.v (.int .i64 l1.length)))]
    [(1, fB f), (5, .cells 61 [.d (.v (.int .i64 3)), .d (.v (.int .i64 0)), .d (.v (.string ⟨#[]⟩)), .d (.sl 4 (V.cellsL (l.map intV)) l.length false)])]

set_option maxRecDepth 10000 in
set_option maxHeartbeats 4000000 in
theorem law_contents (f : Nat → Int) (hf : fOk f) : Fn0 Tryd.prog 6 [fD f] (.v (.bool true)) := by
  have e1 := encode_ok f hf
  rw [encD] at e1
  refine Fun.of_wp (pn := noPn) Tryd.tab Tryd.func6 rfl fun β0 => ?_
  simp only [Tryd.f6]
  simp only [fD]
  repeat (first | refine WP.seq ?_ | refine WP.block ?_ | (refine WP.region Tryd.tab ?_; simp -dsimp) | (refine WP.draw Tryd.tab Tryd.mixed ?_; simp -dsimp) | refine And.intro (by first | rfl | omega | decide | (simp; done) | (simp; omega) | (intro _ h; exact fcs_side h; done) | (intros; simp_all; done)) ?_)
  refine vcStop.call0 Tryd.body10 sane_ok rfl rfl (by simp) ?_
  simp -dsimp
  repeat (first | refine WP.seq ?_ | refine WP.block ?_ | (refine WP.region Tryd.tab ?_; simp -dsimp) | (refine WP.draw Tryd.tab Tryd.mixed ?_; simp -dsimp) | refine And.intro (by first | rfl | omega | decide | (simp; done) | (simp; omega) | (intro _ h; exact fcs_side h; done) | (intros; simp_all; done)) ?_)
  refine WP.cond (b := false) (by simp) (fun h => by cases h) (fun _ => ?_)
  refine WP.skip ?_
  simp -dsimp
  repeat (first | refine WP.seq ?_ | refine WP.block ?_ | (refine WP.region Tryd.tab ?_; simp -dsimp) | (refine WP.draw Tryd.tab Tryd.mixed ?_; simp -dsimp) | refine And.intro (by first | rfl | omega | decide | (simp; done) | (simp; omega) | (intro _ h; exact fcs_side h; done) | (intros; simp_all; done)) ?_)
  refine vcStop.call0 Tryd.body17 e1 rfl rfl (by simp [fD]) ?_
  simp -dsimp
  repeat (first | refine WP.seq ?_ | refine WP.block ?_ | (refine WP.region Tryd.tab ?_; simp -dsimp) | (refine WP.draw Tryd.tab Tryd.mixed ?_; simp -dsimp) | refine And.intro (by first | rfl | omega | decide | (simp; done) | (simp; omega) | (intro _ h; exact fcs_side h; done) | (intros; simp_all; done)) ?_)
  by_cases v : (numF f).2 = true
  · have d1 := f18_ok (encF f) (by have := encF_len hf; omega)
    rw [decD, pDec_enc hf] at d1
    obtain ⟨r, E, hE, hn, hr⟩ := num_list v
    obtain ⟨k1, k13, hsz⟩ := sz_of hE
    obtain ⟨_, hl12⟩ := numF_in hf
    have hEl := ents_len hE
    rw [enc_yes v]
    simp -dsimp
    refine WP.cond (b := false) (by simp) (fun h => by cases h) (fun _ => ?_)
    refine WP.skip ?_
    simp -dsimp
    repeat (first | refine WP.seq ?_ | refine WP.block ?_ | (refine WP.region Tryd.tab ?_; simp -dsimp) | (refine WP.draw Tryd.tab Tryd.mixed ?_; simp -dsimp) | refine And.intro (by first | rfl | omega | decide | (simp; done) | (simp; omega) | (intro _ h; exact fcs_side h; done) | (intros; simp_all; done)) ?_)
    refine vcStop.call0 Tryd.body21 d1 rfl rfl (by simp) ?_
    obtain ⟨l, hl⟩ : ∃ l, (numF f).1 = l := ⟨_, rfl⟩
    have hlen : l.length = 4 + E.length := by rw [← hl, hn]; simp; omega
    rw [hl, intsV]
    simp only [szC] at hsz
    have hk1 : ¬ f 3 < 1 := by omega
    have hk2 : ¬ 14 ≤ f 3 := by omega
    have e4 : IntKind.i64.wrap (4 + (E.length : Int)) = 4 + (E.length : Int) := IntWalk.i64_in _ (by omega)
    have e5 : (l.length : Int) = 4 + (E.length : Int) := by omega
    simp -dsimp [V.d, V.cells]
    repeat (first | refine WP.seq ?_ | refine WP.block ?_ | (refine WP.region Tryd.tab ?_; simp -dsimp [hsz, hk1, hk2, e4, e5]) | (refine WP.draw Tryd.tab Tryd.mixed ?_; simp -dsimp [hsz, hk1, hk2, e4, e5]) | refine And.intro (by first | rfl | omega | decide | (simp; done) | (simp; omega) | (intro _ h; exact fcs_side h; done) | (intros; simp_all; done)) ?_)
    refine WP.cond (b := false) (by simp) (fun h => by cases h) (fun _ => ?_)
    refine WP.skip ?_
    simp -dsimp
    repeat (first | refine WP.seq ?_ | refine WP.block ?_ | (refine WP.region Tryd.tab ?_; simp -dsimp) | (refine WP.draw Tryd.tab Tryd.mixed ?_; simp -dsimp) | refine And.intro (by first | rfl | omega | decide | (simp; done) | (simp; omega) | (intro _ h; exact fcs_side h; done) | (intros; simp_all; done)) ?_)
    refine WP.loopWk (fun m S => ∃ l1 l2, l = l1 ++ l2 ∧ m = l2.length ∧ S = sK f l l1) l.length (S0 := sK f l []) (Wk.lessE [26] (by simp [sK]) (by simp [sK])) ⟨[], l, rfl, rfl, rfl⟩ ?_
    rintro _ _ ⟨l1, l2, hl12', rfl, rfl⟩
    have hll : l.length = l1.length + l2.length := by rw [← List.length_append, ← hl12']
    simp -dsimp [sK]
    repeat (first | refine WP.seq ?_ | refine WP.block ?_ | (refine WP.region Tryd.tab ?_; simp -dsimp) | (refine WP.draw Tryd.tab Tryd.mixed ?_; simp -dsimp) | refine And.intro (by first | rfl | omega | decide | (simp; done) | (simp; omega) | (intro _ h; exact fcs_side h; done) | (intros; simp_all; done)) ?_)
    cases l2 with
    | cons x l2 =>
      rw [List.length_cons] at hll
      have e1 : IntKind.i64.wrap ((l1.length : Int) + 1) = (l1.length : Int) + 1 := IntWalk.i64_in _ (by omega)
      have hv := V.cells_at (l1.map intV) (intV x) (l2.map intV)
      rw [← List.map_cons, ← List.map_append, ← hl12', List.length_map, intV_d] at hv
      refine WP.cond (b := true) (by simp; omega) (fun _ => ?_) (fun h => by cases h)
      refine WP.skip ?_
      simp -dsimp
      refine WP.seq (WP.block ?_)
      repeat (first | refine WP.seq ?_ | refine WP.block ?_ | (refine WP.region Tryd.tab ?_; simp -dsimp [hv]) | (refine WP.draw Tryd.tab Tryd.mixed ?_; simp -dsimp [hv]) | refine And.intro (by first | rfl | omega | decide | (simp; done) | (simp; omega) | (intro _ h; exact fcs_side h; done) | (intros; simp_all; done)) ?_)
      refine WP.cond (b := false) (by simp) (fun h => by cases h) (fun _ => ?_)
      refine WP.skip ?_
      simp -dsimp
      repeat (first | refine WP.seq ?_ | refine WP.block ?_ | (refine WP.region Tryd.tab ?_; simp -dsimp) | (refine WP.draw Tryd.tab Tryd.mixed ?_; simp -dsimp) | refine And.intro (by first | rfl | omega | decide | (simp; done) | (simp; omega) | (intro _ h; exact fcs_side h; done) | (intros; simp_all; done)) ?_)
      refine loopW.next (sK f l (l1 ++ [x])) (Wk.lessE [9] (by simp [sK, e1]) (by simp [sK])) l2.length (by simp) ⟨l1 ++ [x], l2, by simp [hl12'], rfl, rfl⟩
    | nil =>
      simp only [List.append_nil] at hl12'
      subst hl12'
      have hl4 : l = f 3 :: f 0 :: f 1 :: f 2 :: r := hl.symm.trans hn
      refine WP.cond (b := false) (by simp) (fun h => by cases h) (fun _ => ?_)
      refine WP.exit ?_
      simp -dsimp
      rw [hl4]
      simp -dsimp only [List.map_cons, V.cellsL, intV_d, List.cons_append, List.nil_append]
      repeat (first | refine WP.seq ?_ | refine WP.block ?_ | (refine WP.region Tryd.tab ?_; simp -dsimp) | (refine WP.draw Tryd.tab Tryd.mixed ?_; simp -dsimp) | refine And.intro (by first | rfl | omega | decide | (simp; done) | (simp; omega) | (intro _ h; exact fcs_side h; done) | (intros; simp_all; done)) ?_)
      refine WP.ret (finQ.retE ?_)
      simp -dsimp
  · rw [enc_no v]
    simp -dsimp
    refine WP.cond (b := true) (by simp) (fun _ => ?_) (fun h => by cases h)
    repeat (first | refine WP.seq ?_ | refine WP.block ?_ | (refine WP.region Tryd.tab ?_; simp -dsimp) | (refine WP.draw Tryd.tab Tryd.mixed ?_; simp -dsimp) | refine And.intro (by first | rfl | omega | decide | (simp; done) | (simp; omega) | (intro _ h; exact fcs_side h; done) | (intros; simp_all; done)) ?_)
    refine WP.ret (finQ.retE ?_)
    simp -dsimp
end Go.Proofs.YtjfkeicmdaanbaaDoor
