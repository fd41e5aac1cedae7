/-
  RulingsPrevail: its inner loops.
-/
import Derived.Test.YtjjaabidbeoomaaDoorKWb
set_option linter.unusedSectionVars false
set_option linter.unusedSimpArgs false
set_option linter.unusedVariables false
namespace Go.Proofs.YtjjaabidbeoomaaDoor
open Go.Xe Go.RowKit

theorem f0_ok : fOk f0 := ⟨fun _ => isI0, .inl rfl, fun _ _ => rfl⟩
noncomputable def pBody : Code := Tryd.f4.body.getD .skip
noncomputable def pL0 : Code := Cl (Cr (Cr (Cr (Cr pBody))))
noncomputable def pK0 : Code := Cl (Cl (Cr (Cr (Cl (Cl (Cr pL0))))))
noncomputable def pA : Code := Cl (Cr (Cl (Cr (Cr (Cr (Cr (Cr pK0)))))))
noncomputable def pB : Code := Cl (Cr (Cr (Cr (Cr (Cr (Cr (Cr (Cr pK0))))))))
abbrev ruB (f : F) : Box := .cells 43 ((fcs f 47 6).map .d)
theorem fcs476 (f : F) : fcs f 47 6 = [.v (.int .i64 (f 47)), .v (.int .i64 (f 48)), .v (.int .i64 (f 49)), .v (.int .i64 (f 50)), .v (.int .i64 (f 51)), .v (.int .i64 (f 52))] := rfl
theorem ruL_lits (f g : F) : decide (ruL f = ruL g) = true ↔ litsD (fcs f 47 6) = litsD (fcs g 47 6) := by
  simp [ruL, fcs476, litsD, litD]
abbrev slA (A : List F) : D := .sl 6 (prt 47 6 A) A.length false
def oS (l A : List F) (g o : F) (j i : Nat) : St :=
  mkS 179 [(0, .d (slF l)), (3, .d (slA A)), (5, .ptr 5 0), (8, .ptr 8 0), (25, .d (slA A)), (26, .d (.v (.int .i64 A.length))), (27, .d (.v (.int .i64 (j : Nat)))), (59, .d (slF l)), (60, .d (.v (.int .i64 l.length))), (61, .d (.v (.int .i64 (i : Nat))))] [(5, ruB g), (8, fB o)]
set_option maxRecDepth 10000 in
set_option maxHeartbeats 4000000 in
theorem own_ok {l A : List F} {g : F} {j : Nat} (hl : l.length ≤ 16) (hv : ∀ f ∈ l, fOk f) (hg : fOk g) {β0 : Nat → Value} {Q : Exit → St → Prop}
    (hQ : ∀ S', Wk S' (oS l A g (ownL (pkP g) l) j l.length) → Q .normal S') :
    WP Tryd.prog ⟨[], β0, none, false⟩ noPn pA (blkQ 2 Q) (oS l A g f0 j 0) := by
  simp only [pA, pK0, pL0, pBody, Tryd.f4, Cl, Cr, Option.getD]
  refine WP.loopWk (fun m S => ∃ i, i + m = l.length ∧ fOk (ownL (pkP g) (l.take i)) ∧ S = oS l A g (ownL (pkP g) (l.take i)) j i) l.length (Wk.refl _) ⟨0, by omega, f0_ok, rfl⟩ ?_
  rintro m _ ⟨i, him, hoo, rfl⟩
  by_cases hi : i < l.length
  · have h1 := fsC_at hi
    have htk := take_fat hi
    have hf := hv _ (fat_in hi)
    have e1 : IntKind.i64.wrap ((i : Int) + 1) = ((i + 1 : Nat) : Int) := by rw [IntWalk.i64_in _ (by omega)]; omega
    generalize fat l i = f at h1 htk hf
    have hsn := ownL_snoc (pkP g) (l.take i) f
    rw [← htk] at hsn
    generalize ownL (pkP g) (l.take i) = o at hoo hsn
    have hc := check_ok f hf
    have hcm := factsCompare_ok f o hf hoo
    rw [oS]
    simp -dsimp
    repeat (first | refine WP.seq ?_ | refine WP.block ?_ | (refine WP.region Tryd.tab ?_; simp -dsimp) | (refine WP.draw Tryd.tab Tryd.mixed ?_; simp -dsimp) | refine And.intro (by first | rfl | omega | decide | (simp; done) | (simp; omega) | (intro _ h; exact fcs_side h; done) | (intros; simp_all; done) | (intros; simp_all; omega)) ?_)
    refine WP.cond (b := true) (by simp; omega) (fun _ => ?_) (fun h => by cases h)
    refine WP.skip ?_
    simp -dsimp
    refine WP.seq (WP.block ?_)
    repeat (first | refine WP.seq ?_ | refine WP.block ?_ | (refine WP.region Tryd.tab ?_; simp -dsimp [h1]) | (refine WP.draw Tryd.tab Tryd.mixed ?_; simp -dsimp [h1]) | refine And.intro (by first | rfl | omega | decide | (simp; done) | (simp; omega) | (intro _ h; exact fcs_side h; done) | (intros; simp_all; done) | (intros; simp_all; omega)) ?_)
    refine vcStopG.eqS Tryd.tab gokF noarrF rfl (.inl rfl) (m := 5) (by omega) keyN43 (by decide) gdN43 stN43 (cs := fcs f 47 6) (es := fcs g 47 6) (fun hg => by simp [hg]) (fun hg => by simp [hg]) (fit_ok hf.1 3 43 47 (by decide)) (fit_ok hg.1 3 43 47 (by decide)) (r := decide (ruL f = ruL g)) (ruL_lits f g) ?_
    simp -dsimp [eqRes]
    repeat (first | refine WP.seq ?_ | refine WP.block ?_ | (refine WP.region Tryd.tab ?_; simp -dsimp) | (refine WP.draw Tryd.tab Tryd.mixed ?_; simp -dsimp) | refine And.intro (by first | rfl | omega | decide | (simp; done) | (simp; omega) | (intro _ h; exact fcs_side h; done) | (intros; simp_all; done) | (intros; simp_all; omega)) ?_)
    refine vcStopG.call0 Tryd.body9 (fun _ => hc) rfl (fun _ => rfl) (fun hg => by simp [fD, hg]) ?_
    simp -dsimp
    repeat (first | refine WP.seq ?_ | refine WP.block ?_ | (refine WP.region Tryd.tab ?_; simp -dsimp) | (refine WP.draw Tryd.tab Tryd.mixed ?_; simp -dsimp) | refine And.intro (by first | rfl | omega | decide | (simp; done) | (simp; omega) | (intro _ h; exact fcs_side h; done) | (intros; simp_all; done) | (intros; simp_all; omega)) ?_)
    refine vcStopG.call0 Tryd.body17 (fun _ => hcm) rfl (fun _ => rfl) (fun hg => by simp [fD, hg]) ?_
    simp -dsimp
    repeat (first | refine WP.seq ?_ | refine WP.block ?_ | (refine WP.region Tryd.tab ?_; simp -dsimp) | (refine WP.draw Tryd.tab Tryd.mixed ?_; simp -dsimp) | refine And.intro (by first | rfl | omega | decide | (simp; done) | (simp; omega) | (intro _ h; exact fcs_side h; done) | (intros; simp_all; done) | (intros; simp_all; omega)) ?_)
    refine WP.cond (b := pkP g f && (decide (o 3 = 0) || decide (cmpF f o < 0))) (by simp [pkP, Bool.and_assoc]) (fun hb => ?_) (fun hb => ?_)
    · have e2 : pkS (pkP g) o f = f := by rw [pkS, if_pos hb]
      rw [e2] at hsn
      repeat (first | refine WP.seq ?_ | refine WP.block ?_ | (refine WP.region Tryd.tab ?_; simp -dsimp) | (refine WP.draw Tryd.tab Tryd.mixed ?_; simp -dsimp) | refine And.intro (by first | rfl | omega | decide | (simp; done) | (simp; omega) | (intro _ h; exact fcs_side h; done) | (intros; simp_all; done) | (intros; simp_all; omega)) ?_)
      refine loopW.next (oS l A g (ownL (pkP g) (l.take (i + 1))) j (i + 1)) (Wk.lessE [10] (by simp [oS, e1]) (by simp [oS, hsn])) (m - 1) (by omega) ⟨i + 1, by omega, by rw [hsn]; exact hf, rfl⟩
    · have e2 : pkS (pkP g) o f = o := by rw [pkS, if_neg (by simp [hb])]
      rw [e2] at hsn
      refine WP.skip ?_
      simp -dsimp
      repeat (first | refine WP.seq ?_ | refine WP.block ?_ | (refine WP.region Tryd.tab ?_; simp -dsimp) | (refine WP.draw Tryd.tab Tryd.mixed ?_; simp -dsimp) | refine And.intro (by first | rfl | omega | decide | (simp; done) | (simp; omega) | (intro _ h; exact fcs_side h; done) | (intros; simp_all; done) | (intros; simp_all; omega)) ?_)
      refine loopW.next (oS l A g (ownL (pkP g) (l.take (i + 1))) j (i + 1)) (Wk.lessE [10] (by simp [oS, e1]) (by simp [oS, hsn])) (m - 1) (by omega) ⟨i + 1, by omega, by rw [hsn]; exact hoo, rfl⟩
  · have hil : i = l.length := by omega
    subst hil
    rw [List.take_length]
    rw [List.take_length] at hoo
    generalize ownL (pkP g) l = o at hoo hQ
    rw [oS]
    simp -dsimp
    repeat (first | refine WP.seq ?_ | refine WP.block ?_ | (refine WP.region Tryd.tab ?_; simp -dsimp) | (refine WP.draw Tryd.tab Tryd.mixed ?_; simp -dsimp) | refine And.intro (by first | rfl | omega | decide | (simp; done) | (simp; omega) | (intro _ h; exact fcs_side h; done) | (intros; simp_all; done) | (intros; simp_all; omega)) ?_)
    refine WP.cond (b := false) (by simp) (fun h => by cases h) (fun _ => ?_)
    refine WP.exit ?_
    exact hQ _ (Wk.lessE [] (by simp [oS]) (by simp [oS]))
def bdS (l A : List F) (g : F) (j i : Nat) : St :=
  mkS 179 [(0, .d (slF l)), (3, .d (slA A)), (5, .ptr 5 0), (8, .ptr 8 0), (25, .d (slA A)), (26, .d (.v (.int .i64 A.length))), (27, .d (.v (.int .i64 (j : Nat)))), (95, .d (slF l)), (96, .d (.v (.int .i64 l.length))), (97, .d (.v (.int .i64 (i : Nat))))] [(5, ruB g), (8, fB g)]
set_option maxRecDepth 10000 in
set_option maxHeartbeats 4000000 in
theorem bad_ok {l A : List F} {g : F} {j : Nat} (hl : l.length ≤ 16) (hv : ∀ f ∈ l, fOk f) (hg : fOk g) (hno : ∀ f ∈ l, f 3 = 10 → f 47 = g 47 → (numF f).2 = true → badP g f = false) {β0 : Nat → Value} {Q : Exit → St → Prop}
    (hQ : ∀ S', Wk S' (bdS l A g j l.length) → Q .normal S') :
    WP Tryd.prog ⟨[], β0, none, false⟩ noPn pB (blkQ 4 Q) (bdS l A g j 0) := by
  simp only [pB, pK0, pL0, pBody, Tryd.f4, Cl, Cr, Option.getD]
  refine WP.loopWk (fun m S => ∃ i, i + m = l.length ∧ S = bdS l A g j i) l.length (Wk.refl _) ⟨0, by omega, rfl⟩ ?_
  rintro m _ ⟨i, him, rfl⟩
  by_cases hi : i < l.length
  · have h1 := fsC_at hi
    have hf := hv _ (fat_in hi)
    have hnf := hno _ (fat_in hi)
    have e1 : IntKind.i64.wrap ((i : Int) + 1) = ((i + 1 : Nat) : Int) := by rw [IntWalk.i64_in _ (by omega)]; omega
    generalize fat l i = f at h1 hf hnf
    have hc := check_ok f hf
    have hcm := factsCompare_ok f g hf hg
    rw [bdS]
    simp -dsimp
    repeat (first | refine WP.seq ?_ | refine WP.block ?_ | (refine WP.region Tryd.tab ?_; simp -dsimp) | (refine WP.draw Tryd.tab Tryd.mixed ?_; simp -dsimp) | refine And.intro (by first | rfl | omega | decide | (simp; done) | (simp; omega) | (intro _ h; exact fcs_side h; done) | (intros; simp_all; done) | (intros; simp_all; omega)) ?_)
    refine WP.cond (b := true) (by simp; omega) (fun _ => ?_) (fun h => by cases h)
    refine WP.skip ?_
    simp -dsimp
    refine WP.seq (WP.block ?_)
    repeat (first | refine WP.seq ?_ | refine WP.block ?_ | (refine WP.region Tryd.tab ?_; simp -dsimp [h1]) | (refine WP.draw Tryd.tab Tryd.mixed ?_; simp -dsimp [h1]) | refine And.intro (by first | rfl | omega | decide | (simp; done) | (simp; omega) | (intro _ h; exact fcs_side h; done) | (intros; simp_all; done) | (intros; simp_all; omega)) ?_)
    refine vcStopG.call0 Tryd.body9 (fun _ => hc) rfl (fun _ => rfl) (fun hg => by simp [fD, hg]) ?_
    simp -dsimp
    repeat (first | refine WP.seq ?_ | refine WP.block ?_ | (refine WP.region Tryd.tab ?_; simp -dsimp) | (refine WP.draw Tryd.tab Tryd.mixed ?_; simp -dsimp) | refine And.intro (by first | rfl | omega | decide | (simp; done) | (simp; omega) | (intro _ h; exact fcs_side h; done) | (intros; simp_all; done) | (intros; simp_all; omega)) ?_)
    refine WP.cond (b := !(decide (f 3 = 10) && (decide (f 47 = g 47) && (numF f).2))) (by cases (numF f).2 <;> simp) (fun hb => ?_) (fun hb => ?_)
    · refine WP.exit ?_
      simp -dsimp
      repeat (first | refine WP.seq ?_ | refine WP.block ?_ | (refine WP.region Tryd.tab ?_; simp -dsimp) | (refine WP.draw Tryd.tab Tryd.mixed ?_; simp -dsimp) | refine And.intro (by first | rfl | omega | decide | (simp; done) | (simp; omega) | (intro _ h; exact fcs_side h; done) | (intros; simp_all; done) | (intros; simp_all; omega)) ?_)
      refine loopW.next (bdS l A g j (i + 1)) (Wk.lessE [12] (by simp [bdS, e1]) (by simp [bdS])) (m - 1) (by omega) ⟨i + 1, by omega, rfl⟩
    · simp only [Bool.not_eq_false', Bool.and_eq_true, decide_eq_true_eq] at hb
      have hbd := hnf hb.1 hb.2.1 hb.2.2
      refine WP.skip ?_
      simp -dsimp
      repeat (first | refine WP.seq ?_ | refine WP.block ?_ | (refine WP.region Tryd.tab ?_; simp -dsimp) | (refine WP.draw Tryd.tab Tryd.mixed ?_; simp -dsimp) | refine And.intro (by first | rfl | omega | decide | (simp; done) | (simp; omega) | (intro _ h; exact fcs_side h; done) | (intros; simp_all; done) | (intros; simp_all; omega)) ?_)
      refine vcStopG.call0 Tryd.body17 (fun _ => hcm) rfl (fun _ => rfl) (fun hg => by simp [fD, hg]) ?_
      simp -dsimp
      repeat (first | refine WP.seq ?_ | refine WP.block ?_ | (refine WP.region Tryd.tab ?_; simp -dsimp) | (refine WP.draw Tryd.tab Tryd.mixed ?_; simp -dsimp) | refine And.intro (by first | rfl | omega | decide | (simp; done) | (simp; omega) | (intro _ h; exact fcs_side h; done) | (intros; simp_all; done) | (intros; simp_all; omega)) ?_)
      refine WP.cond (b := badP g f) (by simp [badP]) (fun hb => by rw [hbd] at hb; cases hb) (fun _ => ?_)
      refine WP.skip ?_
      simp -dsimp
      repeat (first | refine WP.seq ?_ | refine WP.block ?_ | (refine WP.region Tryd.tab ?_; simp -dsimp) | (refine WP.draw Tryd.tab Tryd.mixed ?_; simp -dsimp) | refine And.intro (by first | rfl | omega | decide | (simp; done) | (simp; omega) | (intro _ h; exact fcs_side h; done) | (intros; simp_all; done) | (intros; simp_all; omega)) ?_)
      refine loopW.next (bdS l A g j (i + 1)) (Wk.lessE [12] (by simp [bdS, e1]) (by simp [bdS])) (m - 1) (by omega) ⟨i + 1, by omega, rfl⟩
  · have hil : i = l.length := by omega
    subst hil
    rw [bdS]
    simp -dsimp
    repeat (first | refine WP.seq ?_ | refine WP.block ?_ | (refine WP.region Tryd.tab ?_; simp -dsimp) | (refine WP.draw Tryd.tab Tryd.mixed ?_; simp -dsimp) | refine And.intro (by first | rfl | omega | decide | (simp; done) | (simp; omega) | (intro _ h; exact fcs_side h; done) | (intros; simp_all; done) | (intros; simp_all; omega)) ?_)
    refine WP.cond (b := false) (by simp) (fun h => by cases h) (fun _ => ?_)
    refine WP.exit ?_
    exact hQ _ (Wk.lessE [] (by simp [bdS]) (by simp [bdS]))
end Go.Proofs.YtjjaabidbeoomaaDoor
