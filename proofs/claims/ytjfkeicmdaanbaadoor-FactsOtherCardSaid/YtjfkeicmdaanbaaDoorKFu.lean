/-
  The reference's Decode.
-/
import Derived.Test.YtjfkeicmdaanbaaDoorKFs
import Derived.Test.YtjfkeicmdaanbaaDoorKFt
set_option linter.unusedSectionVars false
set_option linter.unusedSimpArgs false
set_option linter.unusedVariables false
namespace Go.Proofs.YtjfkeicmdaanbaaDoor
open Go.Xe Go.RowKit

def sDR (bs : List UInt8) (k n : Int) (s : ByteArray) (l l1 : List V) : St :=
  mkS 55 [(0, .d (slB bs)), (2, .ptr 2 0), (3, .d (.v (.int .i64 0))), (4, .ptr 4 0), (6, .row 500), (7, .d (.v (.int .i64 l1.length)))]
    [(2, fB f0), (4, vB k n s l), (500, rI (l1.map V.num))]

set_option maxRecDepth 10000 in
set_option maxHeartbeats 4000000 in
theorem refDecode_ok (bs : List UInt8) (hbs : bs.length ≤ 10000) : Fn0 Tryd.prog 20 [slB bs] (decFD bs) := by
  have h19 := f19_ok bs (by omega)
  rw [decD] at h19
  have hpf := pDec_facts (bs := bs) (by omega)
  unfold decFD decF numsB
  generalize pDec bs = R at *
  obtain ⟨⟨k, n, s, l⟩, e⟩ := R
  rcases hpf with ⟨h0, hrng, henc, hok, _⟩ | hbad
  · simp only at h0 hrng henc hok
    subst h0
    have hL := (V.rng_n hrng).2
    have hin := rngL_num hL
    have hlen := V.items_len hok
    rw [henc] at hlen
    simp only [V.items] at hlen
    have hg := candG_ok hin
    have h18 := refEncode_ok _ hg
    rw [← enc_ref hg] at h18
    have h41 := build_ok (l.map V.num) (by simp; omega)
    simp only [if_true, V.items]
    refine Fun.of_wp (pn := noPn) Tryd.tab Tryd.func20 rfl fun β0 => ?_
    simp only [Tryd.f20]
    repeat (first | refine WP.seq ?_ | refine WP.block ?_ | (refine WP.region Tryd.tab ?_; simp -dsimp [zero47]) | (refine WP.draw Tryd.tab Tryd.mixed ?_; simp -dsimp [zero47]) | refine And.intro (by first | rfl | omega | decide | (simp; done) | (simp; omega) | (intro _ h; exact fcs_side h; done) | (intros; simp_all; done)) ?_)
    refine vcStop.call0 Tryd.body40 h19 rfl rfl (by simp) ?_
    simp -dsimp [V.d, V.cells]
    repeat (first | refine WP.seq ?_ | refine WP.block ?_ | (refine WP.region Tryd.tab ?_; simp -dsimp) | (refine WP.draw Tryd.tab Tryd.mixed ?_; simp -dsimp) | refine And.intro (by first | rfl | omega | decide | (simp; done) | (simp; omega) | (intro _ h; exact fcs_side h; done) | (intros; simp_all; done)) ?_)
    refine WP.cond (b := false) (by simp) (fun h => by cases h) (fun _ => ?_)
    refine WP.skip ?_
    simp -dsimp
    repeat (first | refine WP.seq ?_ | refine WP.block ?_ | (refine WP.region Tryd.tab ?_; simp -dsimp) | (refine WP.draw Tryd.tab Tryd.mixed ?_; simp -dsimp) | refine And.intro (by first | rfl | omega | decide | (simp; done) | (simp; omega) | (intro _ h; exact fcs_side h; done) | (intros; simp_all; done)) ?_)
    refine WP.loopWk (fun m S => ∃ l1 l2, l = l1 ++ l2 ∧ m = l2.length ∧ S = sDR bs k n s l l1) l.length (S0 := sDR bs k n s l [])
      (Wk.go [] 20 500 (by decide) (by simp [sDR]) (by simp [sDR]) (by simp [sDR])) ⟨[], l, rfl, rfl, rfl⟩ ?_
    rintro _ _ ⟨l1, l2, hl12, rfl, rfl⟩
    have hll : l.length = l1.length + l2.length := by rw [← List.length_append, ← hl12]
    simp -dsimp [sDR]
    repeat (first | refine WP.seq ?_ | refine WP.block ?_ | (refine WP.region Tryd.tab ?_; simp -dsimp) | (refine WP.draw Tryd.tab Tryd.mixed ?_; simp -dsimp) | refine And.intro (by first | rfl | omega | decide | (simp; done) | (simp; omega) | (intro _ h; exact fcs_side h; done) | (intros; simp_all; done)) ?_)
    cases l2 with
    | cons v l2 =>
      rw [List.length_cons] at hll
      have e1 : IntKind.i64.wrap ((l1.length : Int) + 1) = (l1.length : Int) + 1 := IntWalk.i64_in _ (by omega)
      have hv := V.cells_at l1 v l2
      rw [← hl12] at hv
      obtain ⟨k', n', s', l'⟩ := v
      rw [V.cells] at hv
      refine WP.cond (b := true) (by simp; omega) (fun _ => ?_) (fun h => by cases h)
      refine WP.skip ?_
      simp -dsimp
      refine WP.seq (WP.block ?_)
      repeat (first | refine WP.seq ?_ | refine WP.block ?_ | (refine WP.region Tryd.tab ?_; simp -dsimp [hv]) | (refine WP.draw Tryd.tab Tryd.mixed ?_; simp -dsimp [hv]) | refine And.intro (by first | rfl | omega | decide | (simp; done) | (simp; omega) | (intro _ h; exact fcs_side h; done) | (intros; simp_all; done)) ?_)
      refine loopW.next (sDR bs k n s l (l1 ++ [.mk k' n' s' l'])) (Wk.go [35] 36 500 (by decide) (by simp [sDR]) (by simp [sDR, e1]) (by simp [sDR, V.num])) l2.length (by simp) ⟨l1 ++ [.mk k' n' s' l'], l2, by simp [hl12], rfl, rfl⟩
    | nil =>
      simp only [List.append_nil] at hl12
      subst hl12
      have hdl : ∀ g b e, g = candG (l.map V.num) → encR g = (b, e) → decL bs (l.map V.num) = if e = 0 ∧ bs = b then (g, 0) else (f0, 120) := fun g b e hg he => by
        rw [decL, ← hg, he]
        by_cases h1 : e = 0 ∧ bs = b
        · rw [if_pos h1, if_pos (by rw [h1.1, h1.2])]
        · rw [if_neg h1, if_neg (fun h2 => h1 ⟨(Prod.mk.inj h2).2, ((Prod.mk.inj h2).1).symm⟩)]
      have hd := hdl _ (encR (candG (l.map V.num))).1 (encR (candG (l.map V.num))).2 rfl rfl
      clear hdl
      rw [hd]
      clear hd
      generalize candG (l.map V.num) = g at *
      generalize encR g = R at *
      obtain ⟨c, e⟩ := R
      simp only at h18 ⊢
      refine WP.cond (b := false) (by simp) (fun h => by cases h) (fun _ => ?_)
      refine WP.exit ?_
      simp -dsimp
      refine WP.weak (Wk.freeze (k := 500) (T := 3) (sz := 1) (ds := iD (l.map V.num)) (by simp; rfl)) ?_
      simp -dsimp
      repeat (first | refine WP.seq ?_ | refine WP.block ?_ | (refine WP.region Tryd.tab ?_; simp -dsimp) | (refine WP.draw Tryd.tab Tryd.mixed ?_; simp -dsimp) | refine And.intro (by first | rfl | omega | decide | (simp; done) | (simp; omega) | (intro _ h; exact fcs_side h; done) | (intros; simp_all; done)) ?_)
      refine vcStop.call0 Tryd.body41 h41 rfl rfl (by simp) ?_
      simp -dsimp [fD]
      repeat (first | refine WP.seq ?_ | refine WP.block ?_ | (refine WP.region Tryd.tab ?_; simp -dsimp) | (refine WP.draw Tryd.tab Tryd.mixed ?_; simp -dsimp) | refine And.intro (by first | rfl | omega | decide | (simp; done) | (simp; omega) | (intro _ h; exact fcs_side h; done) | (intros; simp_all; done)) ?_)
      refine vcStop.call0 Tryd.body18 h18 rfl rfl (by simp [fD]) ?_
      simp -dsimp
      repeat (first | refine WP.seq ?_ | refine WP.block ?_ | (refine WP.region Tryd.tab ?_; simp -dsimp) | (refine WP.draw Tryd.tab Tryd.mixed ?_; simp -dsimp) | refine And.intro (by first | rfl | omega | decide | (simp; done) | (simp; omega) | (intro _ h; exact fcs_side h; done) | (intros; simp_all; done)) ?_)
      refine WP.cond (b := !decide (e = 0 ∧ bs = c)) (by simp) (fun hb => ?_) (fun hb => ?_)
      · have hb : ¬ (e = 0 ∧ bs = c) := by simpa only [Bool.not_eq_true', decide_eq_false_iff_not] using hb
        rw [if_neg hb]
        repeat (first | refine WP.seq ?_ | refine WP.block ?_ | (refine WP.region Tryd.tab ?_; simp -dsimp [zero47]) | (refine WP.draw Tryd.tab Tryd.mixed ?_; simp -dsimp [zero47]) | refine And.intro (by first | rfl | omega | decide | (simp; done) | (simp; omega) | (intro _ h; exact fcs_side h; done) | (intros; simp_all; done)) ?_)
        refine WP.ret (finQ.retE ?_)
        simp -dsimp [fD]
      · have hb : e = 0 ∧ bs = c := by simpa using hb
        rw [if_pos hb]
        refine WP.skip ?_
        simp -dsimp
        repeat (first | refine WP.seq ?_ | refine WP.block ?_ | (refine WP.region Tryd.tab ?_; simp -dsimp) | (refine WP.draw Tryd.tab Tryd.mixed ?_; simp -dsimp) | refine And.intro (by first | rfl | omega | decide | (simp; done) | (simp; omega) | (intro _ h; exact fcs_side h; done) | (intros; simp_all; done)) ?_)
        refine WP.ret (finQ.retE ?_)
        simp -dsimp [fD]
  · cases hbad
    simp only [V.items, show ¬ (20 : Int) = 0 by decide, if_false]
    refine Fun.of_wp (pn := noPn) Tryd.tab Tryd.func20 rfl fun β0 => ?_
    simp only [Tryd.f20]
    repeat (first | refine WP.seq ?_ | refine WP.block ?_ | (refine WP.region Tryd.tab ?_; simp -dsimp [zero47]) | (refine WP.draw Tryd.tab Tryd.mixed ?_; simp -dsimp [zero47]) | refine And.intro (by first | rfl | omega | decide | (simp; done) | (simp; omega) | (intro _ h; exact fcs_side h; done) | (intros; simp_all; done)) ?_)
    refine vcStop.call0 Tryd.body40 h19 rfl rfl (by simp) ?_
    simp -dsimp [V.d, V.cells]
    repeat (first | refine WP.seq ?_ | refine WP.block ?_ | (refine WP.region Tryd.tab ?_; simp -dsimp [zero47]) | (refine WP.draw Tryd.tab Tryd.mixed ?_; simp -dsimp [zero47]) | refine And.intro (by first | rfl | omega | decide | (simp; done) | (simp; omega) | (intro _ h; exact fcs_side h; done) | (intros; simp_all; done)) ?_)
    refine WP.cond (b := true) (by simp) (fun _ => ?_) (fun h => by cases h)
    repeat (first | refine WP.seq ?_ | refine WP.block ?_ | (refine WP.region Tryd.tab ?_; simp -dsimp [zero47]) | (refine WP.draw Tryd.tab Tryd.mixed ?_; simp -dsimp [zero47]) | refine And.intro (by first | rfl | omega | decide | (simp; done) | (simp; omega) | (intro _ h; exact fcs_side h; done) | (intros; simp_all; done)) ?_)
    refine WP.ret (finQ.retE ?_)
    simp -dsimp [fD]
end Go.Proofs.YtjfkeicmdaanbaaDoor
