/-
  Joined texts.
-/
import Derived.Test.YtaplgjnlfleklaaDoorKAB
import Derived.Test.YtaplgjnlfleklaaDoorKAC
set_option linter.unusedVariables false
set_option linter.unusedSimpArgs false
set_option linter.unusedSectionVars false
/-
  Crews: a signature that was read.
-/
set_option linter.unusedSimpArgs false
set_option linter.unusedVariables false
namespace Go.Proofs.YtaplgjnlfleklaaDoor
open Go.Xe Go.RowKit

def sgU (p : Sg) : Prop := ∃ k op cl pa, p.2 = sigC k op cl pa ∧ isI k ∧ all32 op ∧ all32 cl ∧ all32 pa
theorem sgU_F {p : Sg} (h : sgU p) : sgFT p := by
  obtain ⟨k, op, cl, pa, e, h, _⟩ := h
  exact ⟨k, 32, op.length, 32, cl.length, 32, pa.length, dgL op, dgL cl, dgL pa, h, e⟩
theorem sgU_T {p : Sg} (h : sgU p) (hs : shrtT p = true) : sgT p := by
  obtain ⟨k, op, cl, pa, e, h, h1, h2, h3⟩ := h
  have hh : shrtT p = (decide (op.length ≤ 100) && (decide (cl.length ≤ 100) && decide (pa.length ≤ 20))) := by rw [shrtT, e]; rfl
  rw [hh] at hs
  simp only [Bool.and_eq_true, decide_eq_true_eq] at hs
  exact ⟨k, op, cl, pa, e, h, h1, h2, h3, by omega, by omega, by omega⟩
end Go.Proofs.YtaplgjnlfleklaaDoor

/-
  Crews: the chapter's examples, in plain lists.
-/
set_option linter.unusedSimpArgs false
set_option linter.unusedVariables false
namespace Go.Proofs.YtaplgjnlfleklaaDoor
open Go.Xe Go.RowKit

def nA : Sg := (shF 0 1 5, zsC)
def nB : Sg := (shF 0 1 3, zsC)
def nC : Sg := (shF 0 1 4, zsC)
def nL : List Sg := [nA, nB, nA, nC]
theorem n_isI {x : Int} (h1 : -1000 ≤ x) (h2 : x ≤ 1000) : isI x := by unfold isI; omega
theorem nS_ok (c n t : Int) (h1 : -1000 ≤ c) (h2 : c ≤ 1000) (h3 : -1000 ≤ n) (h4 : n ≤ 1000) (h5 : -1000 ≤ t) (h6 : t ≤ 1000) : fOk (shF c n t) := shF_ok (n_isI h1 h2) (n_isI h3 h4) (n_isI h5 h6)
theorem nL_ok : ∀ p ∈ nL, sgOk p := fun p hp => by
  simp only [nL, List.mem_cons, List.not_mem_nil, or_false] at hp
  rcases hp with rfl | rfl | rfl | rfl
  all_goals exact ⟨nS_ok _ _ _ (by decide) (by decide) (by decide) (by decide) (by decide) (by decide), rfl, by decide⟩
theorem n_frk : ((frkL nL).length == 1 && (frkL nL).all fun q => eqF q.1.1 (shF 0 1 3) && eqF q.2.1 (shF 0 1 4)) = true := by kernel_rfl
theorem n_frk0 : frkL [] = [] := by kernel_rfl
theorem n_num1 : (numF (shF 0 1 5)).2 = true := by kernel_rfl
theorem n_num2 : (numF (shF 0 2 5)).2 = true := by kernel_rfl
theorem n_num0 : (numF f0).2 = false := by kernel_rfl
theorem f0_ok : fOk f0 := ⟨fun i => by simp [f0, isI], .inl rfl, fun i _ => rfl⟩
abbrev nK : List UInt8 := [1]
theorem n_key : keyV nK 1 0 = true := by decide
def nT : Dg := treeB (pubsB nK 1)
theorem n_pbl : pblR nK 1 0 = (nT, 0) := by
  rw [pblR, if_pos n_key]; rfl
def nS : Sg := (shF 0 1 5, sgnC nK 1 0 (msgB (shF 0 1 5)))
theorem n_sg1 : sgnR nK 1 0 (shF 0 1 5) = (sgc nS, 0) := by
  rw [sgnR, if_pos n_num1, if_pos ⟨n_key, by decide⟩]; rfl
theorem n_sg2 : sgnR nK 1 0 (shF 0 2 5) = (fcs f0 0 57 ++ zsC, 40) := by
  rw [sgnR, if_pos n_num2, if_neg fun h => absurd h.2 (by decide)]
theorem n_sg0 : sgnR nK 1 0 f0 = (fcs f0 0 57 ++ zsC, 120) := by
  rw [sgnR, if_neg (by rw [n_num0]; decide)]
theorem sig_sgn (seed : List UInt8) (m i : Nat) (msg : List UInt8) (hm : m ≤ 4096) (hi : i < m) : sigG i (openedB seed i (kbB seed m i msg) 64) (closedB seed i (kbB seed m i msg) 64) (pathB (pubsB seed m) i) := by
  refine ⟨by unfold isI; omega, openedB_32 _ _ _ _, closedB_32 _ _ _ _, path_32 _ _ _ (Nat.le_refl _), by rw [openedB_len]; decide, by rw [closedB_len]; decide, ?_⟩
  have h1 := (path_up _ (pubsB seed m) i (Nat.le_refl _) (by rw [pubsB_len]; exact hi)).1
  have h2 := dirB_len (pubsB seed m).length i (pubsB seed m).length (Nat.le_refl _)
  rw [pubsB_len] at h1 h2
  omega
theorem vfy_sgn (seed : List UInt8) (m : Nat) (u : Int) (f : Nat → Int) (hv : (numF f).2 = true) (hk : keyV seed m u = true) (hn : f 1 - 1 < m) (l : List Crw) (hcr : crB l = true) (hlen : f 0 < l.length) (hat : l.getD (f 0).toNat (z32, 0) = (treeB (pubsB seed m), (m : Int))) :
    vfyE l f (f 1 - 1).toNat (openedB seed (f 1 - 1).toNat (kbB seed m (f 1 - 1).toNat (msgB f)) 64) (closedB seed (f 1 - 1).toNat (kbB seed m (f 1 - 1).toNat (msgB f)) 64) (pathB (pubsB seed m) (f 1 - 1).toNat) = 0 := by
  obtain ⟨_, h1, _⟩ := num_hd hv
  have hm : m ≤ 4096 := by simp only [keyV, decide_eq_true_eq] at hk; omega
  have hs := seal_sign seed m (f 1 - 1).toNat (msgB f) (by omega) hm (by rw [msgB_len]; decide)
  rw [vfyE, if_pos hcr, if_pos hv, if_neg (by omega), hat, if_pos ⟨by omega, hs⟩]
theorem nS_T : sgT nS := ⟨_, _, _, _, rfl, sig_sgn nK 1 0 _ (by decide) (by decide)⟩
def nR : List Crw := [(nT, 1)]
theorem n_crB : crB nR = true := by decide +kernel
theorem n_vfy : vfyS nR nS = 0 := by
  rw [vfyS_eq rfl (sig_sgn nK 1 0 _ (by decide) (by decide))]
  exact vfy_sgn nK 1 0 (shF 0 1 5) n_num1 n_key (by decide) nR n_crB (by decide) rfl
theorem n_vfy0 : vfyS [] nS = 130 := by
  rw [vfyS_eq rfl (sig_sgn nK 1 0 _ (by decide) (by decide)), vfyE, if_pos (by decide), if_pos (by exact n_num1), if_pos (by decide)]
theorem n_fk : fkE nR (nS, nS) = 130 := by
  have hf : fOk (shF 0 1 5) := nS_ok _ _ _ (by decide) (by decide) (by decide) (by decide) (by decide) (by decide)
  have hc := (cmp_zero hf hf n_num1 n_num1).2 rfl
  rw [fkE, if_neg (by simp [n_vfy]), if_neg (by simp [n_vfy]), if_neg fun h => ?_]
  have := h.2
  rw [show nS.1 = shF 0 1 5 from rfl, hc] at this
  omega
theorem crwMany_ok (c : List D) (n : Nat) (b : Bool) (h : 32 < n) (hn : n ≤ 1000000) : Fn0 Tryd.prog 16 [.sl 33 c n b] (.v (.int .i64 130)) := by
  have hd : decide ((32 : Int) < (n : Int)) = true := by rw [decide_eq_true_iff]; omega
  refine Fun.of_wp (pn := noPn) Tryd.tab Tryd.func16 rfl fun β0 => ?_
  simp only [Tryd.f16]
  repeat (first | apply wG | (apply wR; simp -dsimp [hd]) | refine aI ?_)
  refine vcStopG.skip (.d (.v (.bool false))) ?_
  simp -dsimp
  repeat (first | apply wG | (apply wR; simp -dsimp) | refine aI ?_)
  refine cT (by simp) ?_
  repeat (first | apply wG | (apply wR; simp -dsimp) | refine aI ?_)
  refine WP.ret (finQ.retE ?_)
  simp -dsimp
end Go.Proofs.YtaplgjnlfleklaaDoor
