/-
  RulingsVoid: its loops.
-/
import Derived.Test.YtjjaabidbeoomaaDoorKQu
set_option linter.unusedSectionVars false
set_option linter.unusedSimpArgs false
set_option linter.unusedVariables false
namespace Go.Proofs.YtjjaabidbeoomaaDoor
open Go.Xe Go.RowKit

def refO (f : F) : Int × Int := (f 0, f 1)
noncomputable def bBody : Code := Tryd.f5.body.getD .skip
noncomputable def bA : Code := Cl (Cr (Cr (Cr bBody)))
noncomputable def bB : Code := Cl (Cr (Cr (Cr (Cr (Cr (Cr bBody))))))
noncomputable def bAin : Code := Cl (Cr (Cr (Cl (Cl (Cr (Cr (Cl (Cl (Cr bA)))))))))
noncomputable def bBin : Code := Cl (Cr (Cl (Cr (Cr (Cl (Cl (Cr (Cr (Cl (Cl (Cr bB)))))))))))
def dupS (l A : List F) (f : F) (i j : Nat) : St :=
  mkS 108 [(0, .d (slF l)), (4, .ptr 4 0), (19, .d (slF l)), (20, .d (.v (.int .i64 l.length))), (21, .d (.v (.int .i64 (i : Nat)))), (28, .d (slF A)), (29, .d (.v (.int .i64 A.length))), (30, .d (.v (.int .i64 (j : Nat))))] [(4, fB f)]
set_option maxRecDepth 10000 in
set_option maxHeartbeats 4000000 in
theorem dup_ok {l A : List F} {f : F} {i : Nat} (hA : A.length ≤ 16) {β0 : Nat → Value} {Q : Exit → St → Prop} (hret : ∀ S', Wk S' (mkS 108 [(2, .d (.v (.bool true)))] []) → Q .ret S')
    (hQ : (∀ g ∈ A, refO f ≠ refO g) → ∀ S', Wk S' (mkS 108 [(0, .d (slF l)), (19, .d (slF l)), (20, .d (.v (.int .i64 l.length))), (21, .d (.v (.int .i64 (i : Nat))))] []) → Q .normal S') :
    WP Tryd.prog ⟨[], β0, none, false⟩ noPn bAin (blkQ 2 Q) (dupS l A f i 0) := by
  simp only [bAin, bA, bBody, Tryd.f5, Cl, Cr, Option.getD]
  refine WP.loopWk (fun m S => ∃ j, j + m = A.length ∧ (∀ g ∈ A.take j, refO f ≠ refO g) ∧ S = dupS l A f i j) A.length (Wk.refl _) ⟨0, by omega, by simp, rfl⟩ ?_
  rintro m _ ⟨j, hjm, hno, rfl⟩
  rw [dupS]
  simp -dsimp
  repeat (first | refine WP.seq ?_ | refine WP.block ?_ | (refine WP.region Tryd.tab ?_; simp -dsimp) | (refine WP.draw Tryd.tab Tryd.mixed ?_; simp -dsimp) | refine And.intro (by first | rfl | omega | decide | (simp; done) | (simp; omega) | (intro _ h; exact fcs_side h; done) | (intros; simp_all; done) | (intros; simp_all; omega)) ?_)
  by_cases hj : j < A.length
  · have h1 := fsC_at hj
    have htk := take_fat hj
    have e1 : IntKind.i64.wrap ((j : Int) + 1) = ((j + 1 : Nat) : Int) := by rw [IntWalk.i64_in _ (by omega)]; omega
    generalize fat A j = g at h1 htk
    refine WP.cond (b := true) (by simp; omega) (fun _ => ?_) (fun h => by cases h)
    refine WP.skip ?_
    simp -dsimp
    refine WP.seq (WP.block ?_)
    repeat (first | refine WP.seq ?_ | refine WP.block ?_ | (refine WP.region Tryd.tab ?_; simp -dsimp [h1]) | (refine WP.draw Tryd.tab Tryd.mixed ?_; simp -dsimp [h1]) | refine And.intro (by first | rfl | omega | decide | (simp; done) | (simp; omega) | (intro _ h; exact fcs_side h; done) | (intros; simp_all; done) | (intros; simp_all; omega)) ?_)
    refine WP.cond (b := decide (refO f = refO g)) (by simp [refO]) (fun hb => ?_) (fun hb => ?_)
    · repeat (first | refine WP.seq ?_ | refine WP.block ?_ | (refine WP.region Tryd.tab ?_; simp -dsimp) | (refine WP.draw Tryd.tab Tryd.mixed ?_; simp -dsimp) | refine And.intro (by first | rfl | omega | decide | (simp; done) | (simp; omega) | (intro _ h; exact fcs_side h; done) | (intros; simp_all; done) | (intros; simp_all; omega)) ?_)
      exact WP.ret (hret _ (Wk.lessE [4, 6] (by simp) (by simp)))
    · have hb := of_decide_eq_false hb
      refine WP.skip ?_
      simp -dsimp
      repeat (first | refine WP.seq ?_ | refine WP.block ?_ | (refine WP.region Tryd.tab ?_; simp -dsimp) | (refine WP.draw Tryd.tab Tryd.mixed ?_; simp -dsimp) | refine And.intro (by first | rfl | omega | decide | (simp; done) | (simp; omega) | (intro _ h; exact fcs_side h; done) | (intros; simp_all; done) | (intros; simp_all; omega)) ?_)
      refine loopW.next (dupS l A f i (j + 1)) (Wk.lessE [6] (by simp [dupS, e1]) (by simp [dupS])) (m - 1) (by omega) ⟨j + 1, by omega, fun x hx => ?_, rfl⟩
      rw [htk] at hx
      rcases List.mem_append.1 hx with hx | hx
      · exact hno x hx
      · rw [List.mem_singleton] at hx; subst hx; exact hb
  · have hja : j = A.length := by omega
    subst hja
    rw [List.take_length] at hno
    refine WP.cond (b := false) (by simp) (fun h => by cases h) (fun _ => ?_)
    refine WP.exit ?_
    exact hQ hno _ (Wk.lessE [4] (by simp) (by simp))
def cutS (l V E : List F) (f : F) (i k : Nat) (b : Bool) : St :=
  mkS 108 [(0, .d (slF l)), (7, .d (.sl 2 (prt 0 2 V) V.length false)), (8, .row 508), (10, .ptr 10 0), (11, .d (.v (.bool b))), (50, .d (slF l)), (51, .d (.v (.int .i64 l.length))), (52, .d (.v (.int .i64 (i : Nat)))),
    (56, .d (.sl 2 (prt 0 2 V) V.length false)), (57, .d (.v (.int .i64 V.length))), (58, .d (.v (.int .i64 (k : Nat))))] [(10, fB f), (508, rB E)]
theorem take_snoc {V : List F} {k : Nat} (hk : k < V.length) : V.take (k + 1) = V.take k ++ [V[k]] := by rw [List.take_succ_eq_append_getElem hk]
set_option maxRecDepth 10000 in
set_option maxHeartbeats 4000000 in
theorem cut_ok {l V E : List F} {f : F} {i : Nat} (hV : V.length ≤ 800) (hf : fOk f) (hv : ∀ g ∈ V, fOk g) {β0 : Nat → Value} {Q : Exit → St → Prop}
    (hQ : ∀ S', Wk S' (cutS l V E f i V.length (V.any fun g => decide (refO g = refO f))) → Q .normal S') :
    WP Tryd.prog ⟨[], β0, none, false⟩ noPn bBin (blkQ 6 Q) (cutS l V E f i 0 false) := by
  simp only [bBin, bB, bBody, Tryd.f5, Cl, Cr, Option.getD]
  refine WP.loopWk (fun m S => ∃ k, k + m = V.length ∧ S = cutS l V E f i k ((V.take k).any fun g => decide (refO g = refO f))) V.length (Wk.refl _) ⟨0, by omega, rfl⟩ ?_
  rintro m _ ⟨k, hkm, rfl⟩
  by_cases hk : k < V.length
  · have h1 := prt_at 0 2 hk
    have htk := take_snoc hk
    have hg := hv _ (List.getElem_mem hk)
    have e1 : IntKind.i64.wrap ((k : Int) + 1) = ((k + 1 : Nat) : Int) := by rw [IntWalk.i64_in _ (by omega)]; omega
    generalize V[k] = g at h1 htk hg
    have hany : ((V.take (k + 1)).any fun g => decide (refO g = refO f)) = (((V.take k).any fun g => decide (refO g = refO f)) || decide (refO g = refO f)) := by
      rw [htk, List.any_append]; simp
    generalize hb : ((V.take k).any fun g => decide (refO g = refO f)) = b at hany
    rw [cutS]
    simp -dsimp
    repeat (first | refine WP.seq ?_ | refine WP.block ?_ | (refine WP.region Tryd.tab ?_; simp -dsimp) | (refine WP.draw Tryd.tab Tryd.mixed ?_; simp -dsimp) | refine And.intro (by first | rfl | omega | decide | (simp; done) | (simp; omega) | (intro _ h; exact fcs_side h; done) | (intros; simp_all; done) | (intros; simp_all; omega)) ?_)
    refine WP.cond (b := true) (by simp; omega) (fun _ => ?_) (fun h => by cases h)
    refine WP.skip ?_
    simp -dsimp
    refine WP.seq (WP.block ?_)
    repeat (first | refine WP.seq ?_ | refine WP.block ?_ | (refine WP.region Tryd.tab ?_; simp -dsimp [h1, fcs02]) | (refine WP.draw Tryd.tab Tryd.mixed ?_; simp -dsimp [h1, fcs02]) | refine And.intro (by first | rfl | omega | decide | (simp; done) | (simp; omega) | (intro _ h; exact fcs_side h; done) | (intros; simp_all; done) | (intros; simp_all; omega)) ?_)
    refine vcStopG.eqS Tryd.tab gokF noarrF rfl (.inl rfl) (m := 5) (by omega) keyN47 (by decide) gdN47 stN47 (cs := [.v (.int .i64 (g 0)), .v (.int .i64 (g 1))]) (es := [.v (.int .i64 (f 0)), .v (.int .i64 (f 1))]) (fun hg => by simp [hg]) (fun hg => by simp [hg]) (fit_ok hg.1 3 47 0 (by decide)) (fit_ok hf.1 3 47 0 (by decide)) (r := decide (refO g = refO f)) (by simp [refO, litsD, litD]) ?_
    simp -dsimp [eqRes]
    repeat (first | refine WP.seq ?_ | refine WP.block ?_ | (refine WP.region Tryd.tab ?_; simp -dsimp) | (refine WP.draw Tryd.tab Tryd.mixed ?_; simp -dsimp) | refine And.intro (by first | rfl | omega | decide | (simp; done) | (simp; omega) | (intro _ h; exact fcs_side h; done) | (intros; simp_all; done) | (intros; simp_all; omega)) ?_)
    refine loopW.next (cutS l V E f i (k + 1) ((V.take (k + 1)).any fun g => decide (refO g = refO f))) (Wk.lessE [13] (by simp [cutS, e1, hany]) (by simp [cutS])) (m - 1) (by omega) ⟨k + 1, by omega, rfl⟩
  · have hkv : k = V.length := by omega
    subst hkv
    rw [List.take_length]
    generalize (V.any fun g => decide (refO g = refO f)) = b at hQ
    rw [cutS]
    simp -dsimp
    repeat (first | refine WP.seq ?_ | refine WP.block ?_ | (refine WP.region Tryd.tab ?_; simp -dsimp) | (refine WP.draw Tryd.tab Tryd.mixed ?_; simp -dsimp) | refine And.intro (by first | rfl | omega | decide | (simp; done) | (simp; omega) | (intro _ h; exact fcs_side h; done) | (intros; simp_all; done) | (intros; simp_all; omega)) ?_)
    refine WP.cond (b := false) (by simp) (fun h => by cases h) (fun _ => ?_)
    refine WP.exit ?_
    exact hQ _ (Wk.lessE [] (by simp [cutS]) (by simp [cutS]))
end Go.Proofs.YtjjaabidbeoomaaDoor
