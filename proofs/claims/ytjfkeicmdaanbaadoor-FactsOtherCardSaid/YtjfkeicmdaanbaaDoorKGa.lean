/-
  The chapter's examples.
-/
import Derived.Test.YtjfkeicmdaanbaaDoorKFu
import Derived.Test.YtjfkeicmdaanbaaDoorKPe
import Derived.Test.YtjfkeicmdaanbaaDoorKFp
set_option linter.unusedSectionVars false
set_option linter.unusedSimpArgs false
set_option linter.unusedVariables false
namespace Go.Proofs.YtjfkeicmdaanbaaDoor
open Go.Xe Go.RowKit

def F1 : Nat → Int := fup (fup (fup (fup f0 3 12) 0 1) 1 2) 2 3
def F2 : Nat → Int := fup F1 2 4
def F3 : Nat → Int := fup (fup (fup (fup (fup f0 3 5) 1 1) 29 1) 31 5) 32 4
theorem fok_of {f : Nat → Int} (h1 : ∀ i, isI (f i)) (h2 : f 54 = 0) (h3 : ∀ i, 57 ≤ i → f i = 0) : fOk f := ⟨h1, .inl h2, h3⟩
theorem isI_n (n : Nat) (h : n ≤ 1000000) : isI (n : Int) := ⟨by omega, by omega⟩
theorem F1_ok : fOk F1 := fok_of (fup_in (fup_in (fup_in (fup_in (fun _ => isI0) (isI_n 12 (by decide))) (isI_n 1 (by decide))) (isI_n 2 (by decide))) (isI_n 3 (by decide))) rfl fun i hi => by
  simp only [F1, fup, f0]
  repeat rw [if_neg (by omega)]
theorem F2_ok : fOk F2 := fok_of (fup_in F1_ok.1 (isI_n 4 (by decide))) rfl fun i hi => by
  rw [F2, fup, if_neg (by omega)]; exact F1_ok.2.2 i hi
theorem F3_ok : fOk F3 := fok_of (fup_in (fup_in (fup_in (fup_in (fup_in (fun _ => isI0) (isI_n 5 (by decide))) (isI_n 1 (by decide))) (isI_n 1 (by decide))) (isI_n 5 (by decide))) (isI_n 4 (by decide))) rfl fun i hi => by
  simp only [F3, fup, f0]
  repeat rw [if_neg (by omega)]
theorem f0_ok : fOk f0 := ⟨fun _ => isI0, .inl rfl, fun _ _ => rfl⟩
theorem F1_num : numF F1 = ([12, 1, 2, 3], true) := by decide
theorem F3_num : (numF F3).2 = false := by decide
theorem f0_num : (numF f0).2 = false := by decide
theorem F12_cmp : cmpF F1 F2 = -1 := by
  have h : headC F1 F2 = -1 := by decide
  rw [cmpF, h]; rfl
theorem F21_cmp : cmpF F2 F1 = 1 := by
  have h : headC F2 F1 = 1 := by decide
  rw [cmpF, h]; rfl
theorem cmp_self (f : Nat → Int) : cmpF f f = 0 := by have := cmp_fact.anti f f; omega
theorem dec_nil : decF [] = (f0, 20) := by
  have : pDec [] = (.mk 0 0 ⟨#[]⟩ [], 20) := by simp [pDec, pVal]
  rw [decF, this]; rfl
theorem numV_ok (x : Int) : Fn0 Tryd.prog 23 [.v (.int .i64 x)] (intV x).d := by
  refine Fun.of_wp (pn := noPn) Tryd.tab Tryd.func23 rfl fun β0 => ?_
  simp only [Tryd.f23]
  repeat (first | refine WP.seq ?_ | refine WP.block ?_ | (refine WP.region Tryd.tab ?_; simp -dsimp) | (refine WP.draw Tryd.tab Tryd.mixed ?_; simp -dsimp) | refine And.intro (by first | rfl | omega | decide | (simp; done) | (simp; omega) | (intro _ h; exact fcs_side h; done) | (intros; simp_all; done)) ?_)
  refine WP.ret (finQ.retE ?_)
  simp -dsimp [intV, V.d, V.cells, V.cellsL]
/-- codec.Encode of a list that the caller has put together. -/
theorem enc_ints (l : List Int) (hl : ∀ x ∈ l, isI x) (hn : l.length ≤ 1000) :
    Fun Tryd.prog 22 [.agg [.d (.v (.int .i64 3)), .d (.v (.int .i64 0)), .d (.v (.string ⟨#[]⟩)), .row 1000]] [(1000, .row 61 4 l.length ((V.cellsL (l.map intV)).map .d))] (.d (.tup [slB (V.enc (intsV l)), .v (.int .i64 0)])) [] fun _ => False := by
  obtain ⟨c1, c2, c3, c4⟩ := intsV_facts hl hn
  have h12 := f12_ok (intsV l) (by omega) c2 (by omega)
  rw [show V.encB (intsV l) = V.enc (intsV l) from if_pos c1, c1] at h12
  refine Fun.ofRow 1000 (T := 61) (cs := V.cellsL (l.map intV)) (Fun.args h12 (args' := [.agg ([D.v (.int .i64 3), .v (.int .i64 0), .v (.string ⟨#[]⟩), .sl 4 (V.cellsL (l.map intV)) l.length false].map .d)]) ?_) rfl ?_ trivial
  · rw [intsV, V.d, V.cells, List.length_map]
    exact ⟨Leq.aggD _, trivial⟩
  · simp [frzL, frz]
set_option maxRecDepth 10000 in
set_option maxHeartbeats 4000000 in
/-- The chapter's examples hold. -/
theorem sane_ok : Fn0 Tryd.prog 10 [] (.v (.bool true)) := by
  have h17 := encode_ok F1 F1_ok
  have hB : encR F1 = (V.enc (intsV [12, 1, 2, 3]), 0) := by rw [encR, F1_num]; rw [if_pos rfl, encF, F1_num]
  rw [encD, hB] at h17
  have h22 := enc_ints [12, 1, 2, 3] (by intro x hx; simp at hx; rcases hx with rfl | rfl | rfl | rfl <;> simp [isI]) (by simp)
  have hlen : (V.enc (intsV [12, 1, 2, 3])).length ≤ 10000 := by have := encF_len F1_ok; rwa [encF, F1_num] at this
  have hpos := V.enc_pos (intsV [12, 1, 2, 3])
  have h19 := factsDecode_ok (V.enc (intsV [12, 1, 2, 3])) (by omega)
  have hd := dec_of_enc F1_ok (by rw [F1_num])
  rw [encF, F1_num] at hd
  rw [decFD, hd] at h19
  have h19n := factsDecode_ok [] (by simp)
  rw [decFD, dec_nil] at h19n
  have h21 := f18_ok [] (by simp)
  rw [decD, show pDec [] = (.mk 0 0 ⟨#[]⟩ [], 20) by simp [pDec, pVal]] at h21
  have c12 := factsCompare_ok F1 F2 F1_ok F2_ok
  have c21 := factsCompare_ok F2 F1 F2_ok F1_ok
  have c11 := factsCompare_ok F1 F1 F1_ok F1_ok
  rw [F12_cmp] at c12
  rw [F21_cmp] at c21
  rw [cmp_self] at c11
  have k3 := check_ok F3 F3_ok
  have k0 := check_ok f0 f0_ok
  rw [F3_num] at k3
  rw [f0_num] at k0
  have s11 := same_ok F1 F1 F1_ok F1_ok
  rw [(eqF_iff F1_ok F1_ok).2 rfl] at s11
  simp only [intsV] at *
  generalize V.enc (.mk 3 0 ⟨#[]⟩ ([12, 1, 2, 3].map intV)) = B at *
  refine Fun.of_wp (pn := noPn) Tryd.tab Tryd.func10 rfl fun β0 => ?_
  simp only [Tryd.f10]
  repeat (first | refine WP.seq ?_ | refine WP.block ?_ | (refine WP.region Tryd.tab ?_; simp -dsimp [zero47]) | (refine WP.draw Tryd.tab Tryd.mixed ?_; simp -dsimp [zero47]) | refine And.intro (by first | rfl | omega | decide | (simp; done) | (simp; omega) | (intro _ h; exact fcs_side h; done) | (intros; simp_all; done)) ?_)
  rw [show fup (fup (fup (fup f0 3 12) 0 1) 1 2) 2 3 = F1 from rfl]
  refine vcStop.call0 Tryd.body17 h17 rfl rfl (by simp [fD]) ?_
  simp -dsimp
  repeat (first | refine WP.seq ?_ | refine WP.block ?_ | (refine WP.region Tryd.tab ?_; simp -dsimp) | (refine WP.draw Tryd.tab Tryd.mixed ?_; simp -dsimp) | refine And.intro (by first | rfl | omega | decide | (simp; done) | (simp; omega) | (intro _ h; exact fcs_side h; done) | (intros; simp_all; done)) ?_)
  refine vcStop.call0 Tryd.body23 (numV_ok 12) rfl rfl (by simp) ?_
  simp -dsimp [intV, V.d, V.cells, V.cellsL]
  repeat refine And.intro (by first | rfl | omega | decide | (simp; done) | (simp; omega) | (intro _ h; exact fcs_side h; done) | (intros; simp_all; done)) ?_
  refine vcStop.call0 Tryd.body23 (numV_ok 1) rfl rfl (by simp) ?_
  simp -dsimp [intV, V.d, V.cells, V.cellsL]
  repeat refine And.intro (by first | rfl | omega | decide | (simp; done) | (simp; omega) | (intro _ h; exact fcs_side h; done) | (intros; simp_all; done)) ?_
  refine vcStop.call0 Tryd.body23 (numV_ok 2) rfl rfl (by simp) ?_
  simp -dsimp [intV, V.d, V.cells, V.cellsL]
  repeat refine And.intro (by first | rfl | omega | decide | (simp; done) | (simp; omega) | (intro _ h; exact fcs_side h; done) | (intros; simp_all; done)) ?_
  refine vcStop.call0 Tryd.body23 (numV_ok 3) rfl rfl (by simp) ?_
  simp -dsimp [intV, V.d, V.cells, V.cellsL]
  repeat refine And.intro (by first | rfl | omega | decide | (simp; done) | (simp; omega) | (intro _ h; exact fcs_side h; done) | (intros; simp_all; done)) ?_
  refine vcStop.call Tryd.body22 (h22) (rl [(1000, 25)]) rfl rfl (by simp [intV, V.d, V.cells, V.cellsL, BoxLeq]) (CallOk.of (by simp [intV, V.d, V.cells, V.cellsL, BoxLeq]) rfl (by first | rfl | (simp [intV, V.d, V.cells, V.cellsL, BoxLeq]; done)) (by simp [intV, V.d, V.cells, V.cellsL, BoxLeq]) (by simp [intV, V.d, V.cells, V.cellsL, BoxLeq])) (fun _ h => h.elim) (fun ⟨_, h⟩ => h.elim) (fun ⟨_, h⟩ => h.elim) (by simp [intV, V.d, V.cells, V.cellsL, BoxLeq]) ?_
  simp -dsimp
  repeat (first | refine WP.seq ?_ | refine WP.block ?_ | (refine WP.region Tryd.tab ?_; simp -dsimp) | (refine WP.draw Tryd.tab Tryd.mixed ?_; simp -dsimp) | refine And.intro (by first | rfl | omega | decide | (simp; done) | (simp; omega) | (intro _ h; exact fcs_side h; done) | (intros; simp_all; done)) ?_)
  refine vcStop.call0 Tryd.body19 h19 rfl rfl (by simp) ?_
  simp -dsimp [fD]
  repeat (first | refine WP.seq ?_ | refine WP.block ?_ | (refine WP.region Tryd.tab ?_; simp -dsimp) | (refine WP.draw Tryd.tab Tryd.mixed ?_; simp -dsimp) | refine And.intro (by first | rfl | omega | decide | (simp; done) | (simp; omega) | (intro _ h; exact fcs_side h; done) | (intros; simp_all; done)) ?_)
  rw [show fup F1 2 4 = F2 from rfl]
  refine vcStop.call0L Tryd.body19 h19n rfl rfl (And.intro (Leq.data (DLe.nil 1)) trivial) ?_
  simp -dsimp [fD]
  repeat (first | refine WP.seq ?_ | refine WP.block ?_ | (refine WP.region Tryd.tab ?_; simp -dsimp) | (refine WP.draw Tryd.tab Tryd.mixed ?_; simp -dsimp) | refine And.intro (by first | rfl | omega | decide | (simp; done) | (simp; omega) | (intro _ h; exact fcs_side h; done) | (intros; simp_all; done)) ?_)
  refine vcStop.call0L Tryd.body21 h21 rfl rfl (And.intro (Leq.data (DLe.nil 1)) trivial) ?_
  simp -dsimp [V.d, V.cells, V.cellsL]
  repeat (first | refine WP.seq ?_ | refine WP.block ?_ | (refine WP.region Tryd.tab ?_; simp -dsimp) | (refine WP.draw Tryd.tab Tryd.mixed ?_; simp -dsimp) | refine And.intro (by first | rfl | omega | decide | (simp; done) | (simp; omega) | (intro _ h; exact fcs_side h; done) | (intros; simp_all; done)) ?_)
  rw [List.append_eq]
  simp only [List.cons_append, List.nil_append]
  repeat (first | refine WP.seq ?_ | refine WP.block ?_ | (refine WP.region Tryd.tab ?_; simp -dsimp [hpos]) | (refine WP.draw Tryd.tab Tryd.mixed ?_; simp -dsimp [hpos]) | refine And.intro (by first | rfl | omega | decide | (simp; done) | (simp; omega) | (intro _ h; exact fcs_side h; done) | (intros; simp_all; done)) ?_)
  refine vcStopG.eqS Tryd.tab gokF noarrF rfl (.inl rfl) (m := 5) (by omega) Tryd.key47 (by decide) Tryd.gd47 st47 (cs := fcs F1 0 57) (es := fcs F1 0 57) (fun _ => by simp) (fun _ => by simp) (okF F1_ok.1) (okF F1_ok.1) (r := true) (by simp) ?_
  simp -dsimp [eqRes]
  refine vcStopG.call0 Tryd.body13 (fun _ => c12) rfl (fun _ => rfl) (fun _ => by simp [fD]) ?_
  simp -dsimp
  repeat refine And.intro (by first | rfl | omega | decide | (simp; done) | (simp; omega) | (intro _ h; exact fcs_side h; done) | (intros; simp_all; done)) ?_
  refine vcStopG.call0 Tryd.body13 (fun _ => c21) rfl (fun _ => rfl) (fun _ => by simp [fD]) ?_
  simp -dsimp
  repeat refine And.intro (by first | rfl | omega | decide | (simp; done) | (simp; omega) | (intro _ h; exact fcs_side h; done) | (intros; simp_all; done)) ?_
  refine vcStopG.call0 Tryd.body13 (fun _ => c11) rfl (fun _ => rfl) (fun _ => by simp [fD]) ?_
  simp -dsimp
  repeat refine And.intro (by first | rfl | omega | decide | (simp; done) | (simp; omega) | (intro _ h; exact fcs_side h; done) | (intros; simp_all; done)) ?_
  refine vcStopG.call0 Tryd.body11 (fun _ => k3) rfl (fun _ => rfl) (fun _ => by simp [fD, fcs, F3, fup, f0, List.range', fcell]) ?_
  simp -dsimp
  repeat refine And.intro (by first | rfl | omega | decide | (simp; done) | (simp; omega) | (intro _ h; exact fcs_side h; done) | (intros; simp_all; done)) ?_
  refine vcStopG.call0 Tryd.body11 (fun _ => k0) rfl (fun _ => rfl) (fun _ => by simp [fD, fcs, f0, List.range', fcell]) ?_
  simp -dsimp
  repeat refine And.intro (by first | rfl | omega | decide | (simp; done) | (simp; omega) | (intro _ h; exact fcs_side h; done) | (intros; simp_all; done)) ?_
  refine vcStopG.call0 Tryd.body15 (fun _ => s11) rfl (fun _ => rfl) (fun _ => by simp [fD]) ?_
  simp -dsimp
  repeat refine And.intro (by first | rfl | omega | decide | (simp; done) | (simp; omega) | (intro _ h; exact fcs_side h; done) | (intros; simp_all; done)) ?_
  refine WP.ret (finQ.retE ?_)
  simp -dsimp [hpos]
end Go.Proofs.YtjfkeicmdaanbaaDoor
