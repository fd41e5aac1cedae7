/-
  Joined texts.
-/
import Derived.Test.YtnljenjcaeophaaGreatDoorSAB
import Derived.Test.YtnljenjcaeophaaGreatDoorSAC
set_option linter.unusedVariables false
set_option linter.unusedSimpArgs false
set_option linter.unusedSectionVars false
namespace Go.Proofs.YtnljenjcaeophaaGreatDoor
open Go.Xe Go.RowKit
def nA : Sg := (shF 0 1 5, zsC)
def nB : Sg := (shF 0 1 3, zsC)
def nC : Sg := (shF 0 1 4, zsC)
def nL : List Sg := [nA, nB, nA, nC]
theorem n_isI {x : Int} (h1 : -1000 ≤ x) (h2 : x ≤ 1000) : isI x := by unfold isI; omega
theorem nS_ok (c n t : Int) (h1 : -1000 ≤ c) (h2 : c ≤ 1000) (h3 : -1000 ≤ n) (h4 : n ≤ 1000) (h5 : -1000 ≤ t) (h6 : t ≤ 1000) : fOk (shF c n t) := shF_ok (n_isI h1 h2) (n_isI h3 h4) (n_isI h5 h6)
theorem nL_ok : ∀ p ∈ nL, sgOk p := fun p hp => by
 simp only [nL, List.mem_cons, List.not_mem_nil, or_false] at hp
 rcases hp with rfl | rfl | rfl | rfl
 all_goals exact ⟨nS_ok _ _ _ (by decide) (by decide) (by decide) (by decide) (by decide) (by decide), rfl, by decide⟩
theorem n_frk : ((frkL nL).length == 1 && (frkL nL).all fun q => eqF q.1.1 (shF 0 1 3) && eqF q.2.1 (shF 0 1 4)) = true := by kernel_rfl
theorem n_frk0 : frkL [] = [] := by kernel_rfl
theorem n_num1 : (numF (shF 0 1 5)).2 = true := by kernel_rfl
theorem n_num2 : (numF (shF 0 2 5)).2 = true := by kernel_rfl
theorem n_num0 : (numF f0).2 = false := by kernel_rfl
theorem f0_ok : fOk f0 := ⟨fun i => by simp [f0, isI], .inl rfl, fun i _ => rfl⟩
abbrev nK : List UInt8 := [1]
theorem n_key : keyV nK 1 0 = true := by decide
def nT : Dg := treeB (pubsB nK 1)
theorem n_pbl : pblR nK 1 0 = (nT, 0) := by
 rw [pblR, if_pos n_key]; rfl
def nS : Sg := (shF 0 1 5, sgnC nK 1 0 (msgB (shF 0 1 5)))
theorem n_sg1 : sgnR nK 1 0 (shF 0 1 5) = (sgc nS, 0) := by
 rw [sgnR, if_pos n_num1, if_pos ⟨n_key, by decide⟩]; rfl
theorem n_sg2 : sgnR nK 1 0 (shF 0 2 5) = (fcs f0 0 57 ++ zsC, 40) := by
 rw [sgnR, if_pos n_num2, if_neg fun h => absurd h.2 (by decide)]
theorem n_sg0 : sgnR nK 1 0 f0 = (fcs f0 0 57 ++ zsC, 120) := by
 rw [sgnR, if_neg (by rw [n_num0]; decide)]
theorem sig_sgn (seed : List UInt8) (m i : Nat) (msg : List UInt8) (hm : m ≤ 4096) (hi : i < m) : sigG i (openedB seed i (kbB seed m i msg) 64) (closedB seed i (kbB seed m i msg) 64) (pathB (pubsB seed m) i) := by
 refine ⟨by unfold isI; omega, openedB_32 _ _ _ _, closedB_32 _ _ _ _, path_32 _ _ _ (Nat.le_refl _), by rw [openedB_len]; decide, by rw [closedB_len]; decide, ?_⟩
 have h1 := (path_up _ (pubsB seed m) i (Nat.le_refl _) (by rw [pubsB_len]; exact hi)).1
 have h2 := dirB_len (pubsB seed m).length i (pubsB seed m).length (Nat.le_refl _)
 rw [pubsB_len] at h1 h2
 omega
theorem vfy_sgn (seed : List UInt8) (m : Nat) (u : Int) (f : Nat → Int) (hv : (numF f).2 = true) (hk : keyV seed m u = true) (hn : f 1 - 1 < m) (l : List Crw) (hcr : crB l = true) (hlen : f 0 < l.length) (hat : l.getD (f 0).toNat (z32, 0) = (treeB (pubsB seed m), (m : Int))) :
  vfyE l f (f 1 - 1).toNat (openedB seed (f 1 - 1).toNat (kbB seed m (f 1 - 1).toNat (msgB f)) 64) (closedB seed (f 1 - 1).toNat (kbB seed m (f 1 - 1).toNat (msgB f)) 64) (pathB (pubsB seed m) (f 1 - 1).toNat) = 0 := by
 obtain ⟨_, h1, _⟩ := num_hd hv
 have hm : m ≤ 4096 := by simp only [keyV, decide_eq_true_eq] at hk; omega
 have hs := seal_sign seed m (f 1 - 1).toNat (msgB f) (by omega) hm (by rw [msgB_len]; decide)
 rw [vfyE, if_pos hcr, if_pos hv, if_neg (by omega), hat, if_pos ⟨by omega, hs⟩]
theorem nS_T : sgT nS := ⟨_, _, _, _, rfl, sig_sgn nK 1 0 _ (by decide) (by decide)⟩
def nR : List Crw := [(nT, 1)]
theorem n_crB : crB nR = true := by decide +kernel
theorem n_vfy : vfyS nR nS = 0 := by
 rw [vfyS_eq rfl (sig_sgn nK 1 0 _ (by decide) (by decide))]
 exact vfy_sgn nK 1 0 (shF 0 1 5) n_num1 n_key (by decide) nR n_crB (by decide) rfl
theorem n_vfy0 : vfyS [] nS = 130 := by
 rw [vfyS_eq rfl (sig_sgn nK 1 0 _ (by decide) (by decide)), vfyE, if_pos (by decide), if_pos (by exact n_num1), if_pos (by decide)]
theorem n_fk : fkE nR (nS, nS) = 130 := by
 have hf : fOk (shF 0 1 5) := nS_ok _ _ _ (by decide) (by decide) (by decide) (by decide) (by decide) (by decide)
 have hc := (cmp_zero hf hf n_num1 n_num1).2 rfl
 rw [fkE, if_neg (by simp [n_vfy]), if_neg (by simp [n_vfy]), if_neg fun h => ?_]
 have := h.2
 rw [show nS.1 = shF 0 1 5 from rfl, hc] at this
 omega
theorem crwMany_ok (c : List D) (n : Nat) (b : Bool) (h : 32 < n) (hn : n ≤ 1000000) : Fn0 Tryz.prog 33 [.sl 33 c n b] (.v (.int .i64 130)) := by
 have hd : decide ((32 : Int) < (n : Int)) = true := by rw [decide_eq_true_iff]; omega
 refine Fun.of_wp (pn := noPn) Tryz.tab Tryz.func33 rfl fun β0 => ?_
 simp only [Tryz.f33]
 repeat(first|apply wG|(apply wR;simp -dsimp [hd])|refine aI ?_)
 refine vcStopG.skip (.d (.v (.bool false))) ?_
 simp -dsimp
 repeat(first|apply wG|(apply wR;simp -dsimp)|refine aI ?_)
 refine cT (by simp) ?_
 repeat(first|apply wG|(apply wR;simp -dsimp)|refine aI ?_)
 refine WP.ret (finQ.retE ?_)
 simp -dsimp
theorem forksR13 (l : List Sg) (hl : ∀ p ∈ l, sgOk p) (hn : l.length ≤ 900) : Fun Tryz.prog 37 [.row 1000] [(1000, .row 70 61 l.length ((sgC l).map .d))] (.d (slK (frkL l))) [] fun _ => False :=
 Fun.ofRow 1000 (T := 70) (cs := sgC l) (args' := [.row 1000]) (bi' := [(1000, .row 70 61 l.length ((sgC l).map .d))]) (forks_ok l false hl hn) rfl rfl trivial
theorem set57 (Z A : List AV) (hZ : Z.length = 61) (hA : A.length = 57) : setL Z 0 A = A ++ Z.drop 57 := by
 rw [setL_mid _ _ _ (by omega), hA]; simp
theorem setL_seg (P W B : List AV) (n : Nat) (hn : P.length = n) (hW : B.length ≤ W.length) : setL (P ++ W) n B = (P ++ B) ++ W.drop B.length := by
 subst hn
 rw [setL_mid _ _ _ (by simp; omega), List.take_left' rfl, List.drop_append, List.drop_of_length_le (by omega), List.nil_append, Nat.add_sub_cancel_left]
theorem setL_4 (Z A B C E : List AV) (hZ : Z.length = 244) (hA : A.length = 61) (hB : B.length = 61) (hC : C.length = 61) (hE : E.length = 61) : setL (setL (setL (setL Z 0 A) 61 B) 122 C) 183 E = A ++ (B ++ (C ++ E)) := by
 have h1 : setL Z 0 A = A ++ Z.drop 61 := by
  have := setL_seg [] Z A 0 rfl (by omega)
  simpa [hA] using this
 rw [h1, setL_seg A _ B 61 hA (by rw [List.length_drop]; omega), setL_seg (A ++ B) _ C 122 (by rw [List.length_append]; omega) (by rw [List.length_drop, List.length_drop]; omega), setL_seg (A ++ B ++ C) _ E 183 (by rw [List.length_append, List.length_append]; omega) (by rw [List.length_drop, List.length_drop, List.length_drop]; omega)]
 rw [List.drop_of_length_le (by simp only [List.length_drop]; omega), List.append_nil, List.append_assoc, List.append_assoc]
theorem set33 (Z A : List AV) (hZ : Z.length = 33) (hA : A.length = 32) (x : AV) : (setL Z 0 A).set 32 x = A ++ [x] := by
 rw [setL_mid _ _ _ (by omega), hA]
 obtain ⟨w, e⟩ : ∃ w, Z.drop (0 + 32) = [w] := List.length_eq_one_iff.1 (by rw [List.length_drop]; omega)
 rw [e, List.take_zero, List.nil_append]
 simp [List.set_append, hA]
set_option maxRecDepth 10000 in
set_option maxHeartbeats 8000000 in
theorem sane13_ok : Fn0 Tryz.prog 26 [] (.v (.bool true)) := by
 have k1 := short13_ok 0 1 5
 have k2 := short13_ok 0 1 3
 have k3 := short13_ok 0 1 4
 have k4 := short13_ok 0 2 5
 have la := fcs_len57 (shF 0 1 5)
 have lb := fcs_len57 (shF 0 1 3)
 have lc := fcs_len57 (shF 0 1 4)
 have eA : List.map AV.d (fcs (shF 0 1 5) 0 57) ++ zsC.map AV.d = (sgc nA).map .d := by rw [← List.map_append]; rfl
 have eB : List.map AV.d (fcs (shF 0 1 3) 0 57) ++ zsC.map AV.d = (sgc nB).map .d := by rw [← List.map_append]; rfl
 have eC : List.map AV.d (fcs (shF 0 1 4) 0 57) ++ zsC.map AV.d = (sgc nC).map .d := by rw [← List.map_append]; rfl
 simp only [List.map_cons, List.map_nil] at eA eB eC
 have oA : sgOk nA := nL_ok nA (by simp [nL])
 have oB : sgOk nB := nL_ok nB (by simp [nL])
 have oC : sgOk nC := nL_ok nC (by simp [nL])
 have sA := sgc_len oA
 have sB := sgc_len oB
 have sC := sgc_len oC
 have tA := sgc_tm oA
 have tB := sgc_tm oB
 have tC := sgc_tm oC
 have dA := sgc_oneD oA
 have dB := sgc_oneD oB
 have dC := sgc_oneD oC
 have e4 : List.map AV.d (sgc nA) ++ (List.map AV.d (sgc nB) ++ (List.map AV.d (sgc nA) ++ List.map AV.d (sgc nC))) = (sgC nL).map .d := by
  simp [nL, sgC, sgc]
 refine Fun.of_wp (pn := noPn) Tryz.tab Tryz.func26 rfl fun β0 => ?_
 simp only [Tryz.f26]
 repeat(first|apply wG|(apply wR;simp -dsimp)|refine aI ?_)
 refine vcStop.call0 Tryz.body67 k1 rfl rfl (by simp) ?_
 simp -dsimp [fD, la, set57, eA]
 refine And.intro (fun a h => fcs_side h) ?_
 repeat(first|apply wG|(apply wR;simp -dsimp)|refine aI ?_)
 refine vcStop.call0 Tryz.body67 k2 rfl rfl (by simp) ?_
 simp -dsimp [fD, lb, set57, eB]
 refine And.intro (fun a h => fcs_side h) ?_
 repeat(first|apply wG|(apply wR;simp -dsimp)|refine aI ?_)
 refine vcStop.call0 Tryz.body67 k3 rfl rfl (by simp) ?_
 simp -dsimp [fD, lc, set57, eC, setL_whole, sA, sB, sC]
 refine And.intro (fun a h => fcs_side h) ?_
 repeat(first|apply wG|(apply wR;simp -dsimp [setL_whole, sA, sB, sC, tA, tB, tC, setL_4, e4])|refine aI ?_)
 refine vcStop.call Tryz.body37 (forksR13 nL nL_ok (by decide)) (rl [(1000, 25)]) rfl rfl (by simp [show nL.length = 4 from rfl, BoxLeq]) (CallOk.of (by simp [show nL.length = 4 from rfl, BoxLeq]) rfl (by first | rfl | (simp [show nL.length = 4 from rfl, BoxLeq]; done)) (by simp [show nL.length = 4 from rfl, BoxLeq]) (by simp [show nL.length = 4 from rfl, BoxLeq])) (fun _ h => h.elim) (fun ⟨_, h⟩ => h.elim) (fun ⟨_, h⟩ => h.elim) (by simp [show nL.length = 4 from rfl, BoxLeq]) ?_
 obtain ⟨q, hq, hq1, hq2⟩ : ∃ q, frkL nL = [q] ∧ eqF q.1.1 (shF 0 1 3) = true ∧ eqF q.2.1 (shF 0 1 4) = true := by
  have h := n_frk
  simp only [Bool.and_eq_true, beq_iff_eq] at h
  obtain ⟨q, hq⟩ := List.length_eq_one_iff.1 h.1
  rw [hq] at h
  simp only [List.all_cons, List.all_nil, Bool.and_true, Bool.and_eq_true] at h
  exact ⟨q, hq, h.2⟩
 have hqo := frk_in nL_ok (q := q) (by rw [hq]; simp)
 rw [hq]
 simp -dsimp
 refine WP.seq ?_
 refine WP.region Tryz.tab ?_
 simp -dsimp
 repeat refine aI ?_
 refine WP.weak (Wk.freeze (k := 27) (T := 5) (sz := 1) (n := 1) (ds := bys nK) (by simp [bys, byteD])) ?_
 simp -dsimp
 have g1 := crwSign_ok nK (by decide) 1 0 (shF 0 1 5) (nS_ok _ _ _ (by decide) (by decide) (by decide) (by decide) (by decide) (by decide))
 have g2 := crwSign_ok nK (by decide) 1 0 (shF 0 2 5) (nS_ok _ _ _ (by decide) (by decide) (by decide) (by decide) (by decide) (by decide))
 have g0 := crwSign_ok nK (by decide) 1 0 f0 f0_ok
 rw [n_sg1] at g1
 rw [n_sg2] at g2
 rw [n_sg0] at g0
 have hp8 := public8_ok nK (by decide) 1 0
 rw [n_pbl] at hp8
 simp only [keyD] at g1 g2 g0 hp8
 have oS : sgOk nS := sgT_ok (nS_ok _ _ _ (by decide) (by decide) (by decide) (by decide) (by decide) (by decide)) nS_T
 have sS := sgc_len oS
 have tS := sgc_tm oS
 have dS := sgc_oneD oS
 have lT : List.length nT = 32 := treeB_len _
 have tT := bysA_take nT lT
 repeat(first|apply wG|(apply wR;simp -dsimp)|refine aI ?_)
 refine vcStop.call0 Tryz.body67 k1 rfl rfl (by simp) ?_
 simp -dsimp
 repeat(first|apply wG|(apply wR;simp -dsimp)|refine aI ?_)
 refine vcStop.call0L Tryz.body29 g1 rfl rfl (And.intro (by simp [slB, bys, byteD]) (And.intro (.refl _) trivial)) ?_
 simp -dsimp [setL_whole, sS]
 repeat(first|apply wG|(apply wR;simp -dsimp [setL_whole, sS])|refine aI ?_)
 obtain ⟨Z, hZ, lZ, dZ⟩ : ∃ Z, fcs f0 0 57 ++ zsC = Z ∧ Z.length = 61 ∧ ∀ d ∈ Z, oneD d = true := ⟨_, rfl, rfl, by decide⟩
 rw [hZ] at g2 g0
 refine vcStop.call0 Tryz.body67 k4 rfl rfl (by simp) ?_
 simp -dsimp
 repeat(first|apply wG|(apply wR;simp -dsimp)|refine aI ?_)
 refine vcStop.call0L Tryz.body29 g2 rfl rfl (And.intro (by simp [slB, bys, byteD]) (And.intro (.refl _) trivial)) ?_
 simp -dsimp [setL_whole, lZ]
 repeat(first|apply wG|(apply wR;simp -dsimp [setL_whole, lZ])|refine aI ?_)
 refine vcStop.call0L Tryz.body29 g0 rfl rfl (And.intro (by simp [slB, bys, byteD]) (And.intro (Leq.aggD (fcs f0 0 57)) trivial)) ?_
 simp -dsimp [setL_whole, lZ]
 repeat(first|apply wG|(apply wR;simp -dsimp [setL_whole, lZ])|refine aI ?_)
 refine vcStop.call0L Tryz.body68 hp8 rfl rfl (And.intro (by simp [slB, bys, byteD]) trivial) ?_
 simp -dsimp [dD, setL_whole, bys_len, lT]
 refine And.intro (fun a h => bysD_one h) ?_
 have eCr : (bys nT).map AV.d ++ [AV.d (.v (.int .i64 1))] = (crX (nT, 1)).map .d := by simp [crX]
 have lCr : (crX (nT, 1)).length = 33 := crX_len ⟨lT, by unfold isI; decide⟩
 refine WP.seq ?_
 refine WP.region Tryz.tab ?_
 simp -dsimp [tT, set33, setL_whole, bys_len, lT, eCr, lCr, setL_length]
 repeat refine aI ?_
 have eR : crC nR = crX (nT, 1) := by simp [nR, crC]
 refine WP.weak ((Wk.freeze (k := 54) (T := 104) (sz := 33) (n := 1) (ds := crX (nT, 1)) (by simp)).trans (Wk.lessE [] (S' := mkS 121 [(2, .ptr 2 0), (3, .ptr 3 0), (4, .d (slK [q])), (6, .ptr 6 0), (7, .d (.v (.int .i64 0))), (9, .d (.v (.int .i64 40))), (11, .d (.v (.int .i64 120))), (13, .d (.v (.int .i64 0))), (14, .d (.sl 33 (crX (nT, 1)) 1 false))] [(2, .cells 70 ((sgc nB).map .d)), (3, .cells 70 ((sgc nC).map .d)), (6, .cells 70 ((sgc nS).map .d))]) (by simp) (by simp))) ?_
 have oR : ∀ c ∈ nR, crOk c := fun c hc => by
  simp only [nR, List.mem_singleton] at hc
  subst hc
  exact ⟨lT, by unfold isI; decide⟩
 have w0 := crwVerifyS_ok [] (fun _ h => by cases h) (by decide) nS (nS_ok _ _ _ (by decide) (by decide) (by decide) (by decide) (by decide) (by decide)) nS_T
 have w1 := crwVerifyS_ok nR oR (by decide) nS (nS_ok _ _ _ (by decide) (by decide) (by decide) (by decide) (by decide) (by decide)) nS_T
 have w2 := fork_ok nR oR (by decide) (nS, nS) (nS_ok _ _ _ (by decide) (by decide) (by decide) (by decide) (by decide) (by decide)) (nS_ok _ _ _ (by decide) (by decide) (by decide) (by decide) (by decide) (by decide)) nS_T nS_T
 rw [n_vfy0] at w0
 rw [n_vfy] at w1
 rw [n_fk] at w2
 simp only [crwD, eR, show nR.length = 1 from rfl, show crC [] = [] from rfl, List.length_nil] at w0 w1 w2
 have hnil := forks_ok [] false (fun _ h => by cases h) (by decide)
 rw [n_frk0] at hnil
 have u1 := same_ok q.1.1 (shF 0 1 3) hqo.1.1 (nS_ok _ _ _ (by decide) (by decide) (by decide) (by decide) (by decide) (by decide))
 have u2 := same_ok q.2.1 (shF 0 1 4) hqo.2.1 (nS_ok _ _ _ (by decide) (by decide) (by decide) (by decide) (by decide) (by decide))
 rw [hq1] at u1
 rw [hq2] at u2
 have y0 : fkC [q] = fkc q := by simp [fkC]
 have y1 : List.take 57 (fkc q) = fcs q.1.1 0 57 := by
  rw [fkc, List.take_append_of_le_length (by rw [sgc_len hqo.1]; decide), sgc_57D]
 have y2 : List.take 57 (List.drop 61 (fkc q)) = fcs q.2.1 0 57 := by
  rw [fkc, List.drop_left' (sgc_len hqo.1), sgc_57D]
 have y3 := fkc_len hqo.1 hqo.2
 have yS : List.map AV.d (sgc nS) ++ List.map AV.d (sgc nS) = (fkc (nS, nS)).map .d := by rw [fkc, List.map_append]
 clear g1 g2 g0 hp8 tT eCr k1 k2 k3 k4
 simp -dsimp
 repeat(first|apply wG|(apply wR;simp -dsimp)|refine aI ?_)
 refine vcStopG.call0L Tryz.body37 (fun _ => hnil) rfl (fun _ => rfl) (fun _ => And.intro (Leq.nil 61) trivial) ?_
 simp -dsimp
 repeat(first|apply wG|(apply wR;simp -dsimp)|refine aI ?_)
 refine cF (by simp) ?_
 refine WP.skip ?_
 simp -dsimp
 have y4 : List.take 122 (fkc q) = fkc q := List.take_of_length_le (by omega)
 have bB := sgc_57 nB
 have bC := sgc_57 nC
 repeat(first|apply wG|(apply wR;simp -dsimp [y0, y1, y2, y3, y4, sB, sC, bB, bC])|refine aI ?_)
 refine vcStop.call0L Tryz.body55 u1 rfl rfl (And.intro (by simp [fD, y0, y1, y4]) (And.intro (by simp [fD, bB]; try exact Leq.aggD _) trivial)) ?_
 simp -dsimp
 repeat(first|apply wG|(apply wR;simp -dsimp [y0, y1, y2, y3, y4, sB, sC, bB, bC])|refine aI ?_)
 refine vcStopG.call0L Tryz.body55 (fun _ => u2) rfl (fun _ => rfl) (fun _ => And.intro (by simp [fD, y0, y2, y4]) (And.intro (by simp [fD, bC]; try exact Leq.aggD _) trivial)) ?_
 simp -dsimp
 repeat(first|apply wG|(apply wR;simp -dsimp)|refine aI ?_)
 refine vcStopG.makeAny Tryz.tab rfl rfl rfl rfl rfl (by decide) (by decide) rfl ?_
 simp -dsimp
 refine vcStopG.call0L Tryz.body33 (fun _ => crwMany_ok (List.replicate (33*33) .any) 33 true (by decide) (by decide)) rfl (fun _ => rfl) (fun _ => And.intro (Leq.refl _) trivial) ?_
 simp -dsimp
 repeat(first|apply wG|(apply wR;simp -dsimp)|refine aI ?_)
 refine vcStopG.call0L Tryz.body35 (fun _ => w0) rfl (fun _ => rfl) (fun _ => And.intro (Leq.nil 33) (And.intro (by simp [sS]; rw [tS]; exact Leq.aggD _) trivial)) ?_
 simp -dsimp
 repeat(first|apply wG|(apply wR;simp -dsimp)|refine aI ?_)
 refine vcStopG.call0L Tryz.body35 (fun _ => w1) rfl (fun _ => rfl) (fun _ => And.intro (Leq.refl _) (And.intro (by simp [sS]; rw [tS]; exact Leq.aggD _) trivial)) ?_
 simp -dsimp
 repeat(first|apply wG|(apply wR;simp -dsimp [setL_122, yS])|refine aI ?_)
 refine vcStopG.call0L Tryz.body42 (fun _ => w2) rfl (fun _ => rfl) (fun _ => And.intro (Leq.refl _) (And.intro (by simp [sS]; rw [setL_122 _ _ _ rfl (by simp [sS]) (by simp [sS]), tS, yS]; exact Leq.aggD _) trivial)) ?_
 simp -dsimp
 repeat(first|apply wG|(apply wR;simp -dsimp)|refine aI ?_)
 refine WP.ret (finQ.retE ?_)
 simp -dsimp
end Go.Proofs.YtnljenjcaeophaaGreatDoor
