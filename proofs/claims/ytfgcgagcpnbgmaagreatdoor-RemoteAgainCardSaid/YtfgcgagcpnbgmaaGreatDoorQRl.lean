/-
  Joined texts.
-/
import Derived.Test.YtfgcgagcpnbgmaaGreatDoorQOr
import Derived.Test.YtfgcgagcpnbgmaaGreatDoorQNc
import Derived.Test.YtfgcgagcpnbgmaaGreatDoorQ4
import Derived.Test.YtfgcgagcpnbgmaaGreatDoorCards
import Derived.Test.YtfgcgagcpnbgmaaGreatDoorTie
import Derived.SevenTiedAt
import Derived.Stop.Joined
set_option linter.unusedVariables false
set_option linter.unusedSimpArgs false
set_option linter.unusedSectionVars false
namespace Go.Proofs.YtfgcgagcpnbgmaaGreatDoor
open Go.Xe Go.RowKit
theorem mk_rmOk {crew : Int} {seed : By} {m : Int} {s : List By} {left sent : Int} (h : okR crew seed m s left sent) (hsd : seed.length ≤ 1000) : rmOk (mkR crew seed m s left sent) := by
 have hkk := keyV_iff.1 h.key
 have hus := recs_used h.h128
 have hsm := recs_small h.h128 h.n2
 have hn2 := h.n2
 have c0 := h.c0
 have c1 := h.c1
 have l1 := h.l1
 have l2 := h.l2
 have lG := onL_len seed m (recs s)
 exact ⟨by simp [isI, mkR]; omega, by simp [isI, mkR]; omega, by simp [isI, mkR]; omega, ⟨by simp only [mkR]; omega, Nat.zero_le _, by simp [isI, mkR]; omega⟩, hsd, by simp only [mkR]; omega, by simp only [mkR, lG]; omega, onL_ok (seed := seed) h.on hkk.2.2.2.1 (fun b hb => by have := hsm b hb; omega)⟩
theorem mk_val {crew : Int} {seed : By} {m : Int} {s : List By} {left sent : Int} (h : okR crew seed m s left sent) : rmB (mkR crew seed m s left sent) = true :=
 mk_valid h fun b hb => by have := recs_small h.h128 h.n2 b hb; omega
def q0 : Rm := mkR 2 [1] 1 (zeS 2) (-1) 0
def qF : Nat → Int := ownF 2 0 (shF 0 9 5)
def qS : List By := perf (zeS 2) (wrI (wrR (zeS 2) (encF qF)))
def q1 : Rm := mkR 2 [1] 1 qS (-1) 0
def q2 : Rm := mkR 2 [1] 1 qS (-1) 1
theorem q_num : (numF qF).2 = true := by kernel_rfl
theorem q_num6 : (numF (ownF 2 1 (shF 0 9 6))).2 = true := by kernel_rfl
theorem q_num0 : (numF (ownF 2 0 f0)).2 = false := by kernel_rfl
theorem q_len : secs (encF qF).length = 1 := by decide +kernel
theorem q_gnr : gnr (zeS 2) = 1 := by decide +kernel
theorem q_fok : fOk qF := ownF_ok (nS_ok _ _ _ (by decide) (by decide) (by decide) (by decide) (by decide) (by decide)) (by unfold isI; decide) (by decide)
theorem q0_ok : okR 2 [1] 1 (zeS 2) (-1) 0 := new_okR (by decide) (by decide) (by decide) (by decide) (by decide)
theorem qS_ok : okR 2 [1] 1 qS (-1) 0 ∧ recs qS = [encF qF] := by
 have h := rec_okR (g := qF) q0_ok q_fok q_num rfl (by rw [recs_zeS]; rfl) (by rw [recs_zeS]; decide) (by rw [recs_zeS, q_len]; decide) (by rw [q_gnr]; decide) (fun h => absurd h.1 (by decide))
 rw [recs_zeS] at h
 exact h
theorem q2_ok : okR 2 [1] 1 qS (-1) 1 := by
 obtain ⟨h, e⟩ := qS_ok
 exact ⟨h.c0, h.c1, h.key, h.n1, h.n2, h.l1, h.l2, h.h128, h.on, by decide, by rw [e]; decide⟩
theorem q_new : newP 2 [1] 1 0 2 = (q0, 0) := by
 rw [newP, if_pos (by decide), if_pos (by decide), if_pos (by decide)]; rfl
theorem q_new32 : newP 32 [1] 1 0 9 = (zeR, 440) := by rw [newP, if_neg (by decide)]
theorem q_rec : recP q0 (shF 0 9 5) = (q1, 0) := by
 rw [recP, q0, if_pos (mk_val q0_ok)]
 show recV 2 [1] 1 (zeS 2) (-1) 0 (ownF 2 (recs (zeS 2)).length (shF 0 9 5)) = _
 rw [recs_zeS]
 show recV 2 [1] 1 (zeS 2) (-1) 0 qF = _
 rw [recV, if_pos q_num, if_pos (by rw [recs_zeS]; decide), if_pos (by rw [recs_zeS, q_len]; decide), if_pos (by rw [q_gnr]; decide), if_neg (fun h => absurd h.1 (by decide))]
 rfl
theorem q_rec6 : recP q1 (shF 0 9 6) = (zeR, 40) := by
 rw [recP, q1, if_pos (mk_val qS_ok.1)]
 show recV 2 [1] 1 qS (-1) 0 (ownF 2 (recs qS).length (shF 0 9 6)) = _
 rw [qS_ok.2]
 show recV 2 [1] 1 qS (-1) 0 (ownF 2 1 (shF 0 9 6)) = _
 rw [recV, if_pos q_num6, qS_ok.2, if_neg (by decide)]
theorem q_rec0 : recP q0 f0 = (zeR, 120) := by
 rw [recP, q0, if_pos (mk_val q0_ok)]
 show recV 2 [1] 1 (zeS 2) (-1) 0 (ownF 2 (recs (zeS 2)).length f0) = _
 rw [recs_zeS]
 show recV 2 [1] 1 (zeS 2) (-1) 0 (ownF 2 0 f0) = _
 rw [recV, if_neg (by rw [q_num0]; decide)]
theorem q0_val : rmB q0 = true := mk_val q0_ok
theorem q1_val : rmB q1 = true := mk_val qS_ok.1
theorem q2_val : rmB q2 = true := mk_val q2_ok
theorem q0_fs : q0.fs = [] := by
 show onL [1] 1 (recs (zeS 2)) = _
 rw [recs_zeS]; rfl
theorem q1_fs : q1.fs = [sgQ [1] 1 qF] := by
 show onL [1] 1 (recs qS) = _
 rw [qS_ok.2, onL, List.map_cons, List.map_nil, dec_of_enc q_fok q_num]
theorem q_cfm0 : cfmP q0 1 = (zeR, 440) := by
 rw [cfmP, if_pos q0_val, if_neg]
 rw [q0_fs]; decide
theorem q_cfm1 : cfmP q1 1 = (q2, 0) := by
 rw [cfmP, if_pos q1_val, if_pos]
 ·rfl
 ·rw [q1_fs]; decide
theorem q_bat1 : batP q1 = ([sgQ [1] 1 qF], 0) := by
 rw [batP, if_pos q1_val, q1_fs]; rfl
theorem q_bat2 : batP q2 = ([], 0) := by
 have : q2.fs = [sgQ [1] 1 qF] := q1_fs
 rw [batP, if_pos q2_val, this]; rfl
theorem res_mk {crew : Int} {seed : By} {m : Int} {s : List By} {left sent : Int} (ho : okR crew seed m s left sent) : resP (mkR crew seed m s left sent) = (mkR crew seed m s (-1) 0, 0) := by
 have hk := keyV_iff.1 ho.key
 have k0 : keyV seed m 0 = true := keyV_iff.2 ⟨hk.1, hk.2.1, hk.2.2.1, hk.2.2.2.1, Int.le_refl _, by omega⟩
 have hb : dkB ⟨s, [], -1, false⟩ = true := dkB_iff.2 ⟨⟨ho.n1, ho.n2, Nat.zero_le _, by simp, by simp⟩, (fun _ h => by cases h), ho.h128⟩
 unfold resP
 exact (if_pos ⟨ho.c0, ho.c1⟩).trans ((if_pos k0).trans ((if_pos hb).trans (if_pos ho.on)))
theorem q_res : resP q2 = (q1, 0) := res_mk q2_ok
theorem q_ck0 : ckR q0 = 0 := by rw [ckR, q0, mk_val q0_ok]; rfl
theorem q_ckz : ckR zeR = 440 := by
 have : rmB zeR = false := by simp [rmB, zeR, keyV]
 rw [ckR, this]; rfl
end Go.Proofs.YtfgcgagcpnbgmaaGreatDoor
set_option linter.unusedVariables false
set_option linter.unusedSimpArgs false
set_option linter.unusedSectionVars false
namespace Go.Proofs.YtfgcgagcpnbgmaaGreatDoor
open Go.Xe Go.RowKit
theorem rm_parts {r : Rm} (h : rmB r = true) : (0 ≤ r.crew ∧ r.crew < 32 ∧ r.used = r.fs.length ∧ 0 ≤ r.sent ∧ r.sent ≤ r.fs.length) ∧ keyV r.seed r.many r.used = true ∧ dkB r.dk = true ∧ sgsB (onL r.seed r.many r.lr) r.fs = true := by
 simp only [rmB, Bool.and_eq_true, decide_eq_true_eq] at h
 exact ⟨h.1, h.2.1, h.2.2.1.1, h.2.2.2.2.2⟩
theorem rm_mk {r : Rm} (hr : ∀ p ∈ r.fs, fOk p.1 ∧ sgT p) (h : rmB r = true) : okR r.crew r.seed r.many r.dk.s r.dk.left r.sent ∧ r = mkR r.crew r.seed r.many r.dk.s r.dk.left r.sent := by
 have hd := dkB_iff.1 (rm_parts h).2.2.1
 have hsm := recs_small hd.2.2 hd.1.2.1
 exact valid_mk hr (fun b hb => by have := hsm b hb; omega) h
theorem rm_fsN {r : Rm} (h : rmB r = true) {l : List Sg} (hl : l.length ≠ r.fs.length) : rmB { r with fs := l } = false := by
 rw [Bool.eq_false_iff]
 intro h2
 have h1 := (rm_parts h).1
 have h2 := (rm_parts h2).1
 simp only at h2
 omega
theorem rm_used {r : Rm} (h : rmB r = true) {u : Int} (hu : u ≠ r.used) : rmB { r with used := u } = false := by
 rw [Bool.eq_false_iff]
 intro h2
 have h1 := (rm_parts h).1
 have h2 := (rm_parts h2).1
 simp only at h2
 omega
theorem rm_set {r : Rm} (hr : ∀ p ∈ r.fs, fOk p.1 ∧ sgT p) (h : rmB r = true) {i : Nat} (hi : i < r.fs.length) {q : Sg} (hq : fOk q.1 ∧ sgT q) (hne : q ≠ r.fs[i]) : rmB { r with fs := r.fs.set i q } = false := by
 rw [Bool.eq_false_iff]
 intro h2
 obtain ⟨ho, hm⟩ := rm_mk hr h
 have hsm := recs_small ho.h128 ho.n2
 have hT : ∀ p ∈ onL r.seed r.many r.lr, fOk p.1 ∧ sgT p := by
  have e : r.lr = recs r.dk.s := by rw [hm]; rfl
  rw [e]
  exact onL_T (seed := r.seed) ho.on (keyV_iff.1 ho.key).2.2.2.1 (fun b hb => by have := hsm b hb; omega)
 have h1 := (sgsB_iff hT hr).1 (rm_parts h).2.2.2
 have h2 := (rm_parts h2).2.2.2
 simp only at h2
 have hset : ∀ p ∈ r.fs.set i q, fOk p.1 ∧ sgT p := fun p hp => by
  rcases List.mem_or_eq_of_mem_set hp with hp | rfl
  ·exact hr p hp
  ·exact hq
 have h3 := (sgsB_iff hT hset).1 h2
 have h4 : (r.fs.set i q)[i]? = r.fs[i]? := by rw [← h3, ← h1]
 rw [List.getElem?_set_self hi, List.getElem?_eq_getElem hi] at h4
 exact hne (Option.some.inj h4)
theorem ckR_no {r : Rm} (h : rmB r = false) : ckR r = 440 := by rw [ckR, h]; rfl
theorem ckR_yes {r : Rm} (h : rmB r = true) : ckR r = 0 := by rw [ckR, h]; rfl
/-! ### Again -/
theorem recP_mk {crew : Int} {seed : By} {m : Int} {s : List By} {left sent : Int} (h : okR crew seed m s left sent) (f : Nat → Int) : recP (mkR crew seed m s left sent) f = recV crew seed m s left sent (ownF crew (recs s).length f) := by
 rw [recP, if_pos (mk_val h)]; rfl
theorem res_ok0 {crew : Int} {seed : By} {m : Int} {s : List By} {left sent : Int} (h : okR crew seed m s left sent) : okR crew seed m s (-1) 0 :=
 ⟨h.c0, h.c1, h.key, h.n1, h.n2, by decide, by decide, h.h128, h.on, by decide, by omega⟩
theorem again {crew : Int} {seed : By} {m : Int} {s : List By} {left sent : Int} (h : okR crew seed m s left sent) {f : Nat → Int} (hf : fOk f) :
  (∃ s' l' s2 l2, recP (mkR crew seed m s left sent) f = (mkR crew seed m s' l' sent, 0) ∧ okR crew seed m s' l' sent ∧ recP (mkR crew seed m s (-1) 0) f = (mkR crew seed m s2 l2 0, 0) ∧ okR crew seed m s2 l2 0 ∧ recs s2 = recs s') ∨
  (∃ s' z, recP (mkR crew seed m s left sent) f = (mkR crew seed m s' (-1) 0, 380) ∧ okR crew seed m s' (-1) 0 ∧ recs s' = recs s ∧ recP (mkR crew seed m s (-1) 0) f = z) ∨
  (∃ e z, recP (mkR crew seed m s left sent) f = (zeR, e) ∧ e ≠ 0 ∧ e ≠ 380 ∧ recP (mkR crew seed m s (-1) 0) f = (z, e)) := by
 have hus := recs_used h.h128
 have hn2 := h.n2
 have h0 := res_ok0 h
 have hg : fOk (ownF crew (recs s).length f) := ownF_ok hf (by have := h.c0; have := h.c1; simp [isI]; omega) (by omega)
 have g0 := ownF_0 crew (recs s).length f
 have g1 := ownF_1 crew (recs s).length f
 rw [recP_mk h, recP_mk h0]
 generalize ownF crew (recs s).length f = g at *
 have hl := recV_left (crew := crew) (seed := seed) (m := m) (s := s) (left := left) (sent := sent) (g := g)
 rcases recV_cases h hg g0 g1 with ⟨s', l', e1, o1, r1, _⟩ | ⟨s', e1, o1, r1⟩ | ⟨e, e1, n1, n2⟩
 ·rw [e1] at hl
  obtain ⟨hl, _⟩ := hl (by simp)
  rcases recV_cases h0 hg g0 g1 with ⟨s2, l2, e2, o2, r2, _⟩ | ⟨s2, e2, _, _⟩ | ⟨e, e2, n1, _⟩
  ·exact .inl ⟨s', l', s2, l2, e1, o1, e2, o2, r2.trans r1.symm⟩
  ·rw [e2] at hl; exact absurd hl (by simp)
  ·rw [e2] at hl; exact absurd hl n1
 ·exact .inr (.inl ⟨s', _, e1, o1, r1, rfl⟩)
 ·rw [e1] at hl
  obtain ⟨hl, _⟩ := hl n2
  refine .inr (.inr ⟨e, (recV crew seed m s (-1) 0 g).1, e1, n1, n2, ?_⟩)
  simp only at hl
  rw [← hl]
end Go.Proofs.YtfgcgagcpnbgmaaGreatDoor
set_option linter.unusedVariables false
set_option linter.unusedSimpArgs false
set_option linter.unusedSectionVars false
namespace Go.Proofs.YtfgcgagcpnbgmaaGreatDoor
open Go.Xe Go.RowKit
theorem newRowC_ok (c m k : Int) : Fun Tryz.prog 12 [.d (.v (.int .i64 c)), .agg [.row 1000, .d (.v (.int .i64 m)), .d (.v (.int .i64 0))], .d (.v (.int .i64 k))] [(1000, .row 5 1 1 [.d (.v (.int .u8 1))])] (.d (rmT (newP c [1] m 0 k))) [] fun _ => False := by
 have h12 := rmNew_ok c [1] (by decide) m 0 k
 have h12' : Fun Tryz.prog 12 [.d (.v (.int .i64 c)), .agg [.d (slB [1]), .d (.v (.int .i64 m)), .d (.v (.int .i64 0))], .d (.v (.int .i64 k))] [] (.d (rmT (newP c [1] m 0 k))) [] fun _ => False :=
  Fun.args h12 (And.intro (.refl _) (And.intro (Leq.aggD [slB [1], .v (.int .i64 m), .v (.int .i64 0)]) (And.intro (.refl _) trivial)))
 exact Fun.ofRow 1000 (T := 5) (cs := bys [1]) h12' rfl rfl trivial
theorem short44_ok (t : Int) : Fn0 Tryz.prog 35 [.v (.int .i64 t)] (fD (shF 0 9 t)) := by
 refine Fun.of_wp (pn := noPn) Tryz.tab Tryz.func35 rfl fun β0 => ?_
 simp only [Tryz.f35]
 repeat(first|apply wG|(apply wR;simp -dsimp)|refine aI ?_)
 refine WP.ret (finQ.retE ?_)
 simp -dsimp
 exact Leq.aggD (fcs (shF 0 9 t) 0 57)
theorem sgC_01 (p : Sg) (l : List Sg) : ((sgC (p :: l))[0]?).getD .any = .v (.int .i64 (p.1 0)) ∧ ((sgC (p :: l))[1]?).getD .any = .v (.int .i64 (p.1 1)) := ⟨rfl, rfl⟩
set_option maxRecDepth 10000 in
set_option maxHeartbeats 8000000 in
theorem sane44_ok : Fn0 Tryz.prog 10 [] (.v (.bool true)) := by
 have h31 := start_ok 1 2
 rw [q_new] at h31
 have h12 := newRowC_ok 32 1 9
 rw [q_new32] at h12
 have k5 := short44_ok 5
 have k6 := short44_ok 6
 have o5 : fOk (shF 0 9 5) := nS_ok _ _ _ (by decide) (by decide) (by decide) (by decide) (by decide) (by decide)
 have o6 : fOk (shF 0 9 6) := nS_ok _ _ _ (by decide) (by decide) (by decide) (by decide) (by decide) (by decide)
 have r0 : rmOk q0 := mk_rmOk q0_ok (by decide)
 have r1 : rmOk q1 := mk_rmOk qS_ok.1 (by decide)
 have r2 : rmOk q2 := mk_rmOk q2_ok (by decide)
 have rz : rmOk zeR := ⟨by unfold isI; decide, by unfold isI; decide, by unfold isI; decide, ⟨by decide, by decide, by unfold isI; decide⟩, by decide, by decide, by decide, fun _ h => by cases h⟩
 have g0 := rmRec_ok q0 r0 (shF 0 9 5) o5
 have g1 := rmRec_ok q1 r1 (shF 0 9 6) o6
 have gz := rmRec_ok q0 r0 f0 f0_ok
 have c0 := rmCfm_ok q0 r0 1
 have c1 := rmCfm_ok q1 r1 1
 have b1 := rmBat_ok q1 r1 (by rw [q1_fs]; decide)
 have b2 := rmBat_ok q2 r2 (by show q1.fs.length ≤ _; rw [q1_fs]; decide)
 have s2 := rmRes_ok q2 r2
 have x0 := rmCheck_ok q0 r0
 have xz := rmCheck_ok zeR rz
 have sm := sameRm_ok q1 r1 rfl
 rw [q_rec] at g0
 rw [q_rec6] at g1
 rw [q_rec0] at gz
 rw [q_cfm0] at c0
 rw [q_cfm1] at c1
 rw [q_bat1] at b1
 rw [q_bat2] at b2
 rw [q_res] at s2
 rw [q_ck0] at x0
 rw [q_ckz] at xz
 have p0 : (sgQ [1] 1 qF).1 0 = 2 := rfl
 have p1 : (sgQ [1] 1 qF).1 1 = 1 := rfl
 have hso : sgOk (sgQ [1] 1 qF) := ⟨q_fok, rfl, fun d hd => sigC_one hd⟩
 generalize sgQ [1] 1 qF = p at *
 have lp := sgC_len (l := [p]) (fun q hq => by rw [List.mem_singleton.1 hq]; exact hso)
 have t01 := sgC_01 p []
 rw [p0, p1] at t01
 obtain ⟨t0, t1⟩ := t01
 generalize q0 = q0 at *
 generalize q1 = q1 at *
 generalize q2 = q2 at *
 refine Fun.of_wp (pn := noPn) Tryz.tab Tryz.func10 rfl fun β0 => ?_
 simp only [Tryz.f10]
 repeat(first|apply wG|(apply wR;simp -dsimp)|refine aI ?_)
 refine vcStop.call0 Tryz.body31 h31 rfl rfl (by simp) ?_
 simp -dsimp [rmT, rmD, rmC]
 repeat(first|apply wG|(apply wR;simp -dsimp)|refine aI ?_)
 refine vcStop.call Tryz.body12 (h12) (rl [(1000, 26)]) rfl rfl (by simp [BoxLeq]) (CallOk.of (by simp [BoxLeq]) rfl (by first | rfl | (simp [BoxLeq]; done)) (by simp [BoxLeq]) (by simp [BoxLeq])) (fun _ h => h.elim) (fun ⟨_, h⟩ => h.elim) (fun ⟨_, h⟩ => h.elim) (by simp [BoxLeq]) ?_
 simp -dsimp [rmT, rmD_ze]
 repeat(first|apply wG|(apply wR;simp -dsimp)|refine aI ?_)
 refine vcStop.call0 Tryz.body35 k5 rfl rfl (by simp) ?_
 simp -dsimp
 repeat(first|apply wG|(apply wR;simp -dsimp)|refine aI ?_)
 refine vcStop.call0 Tryz.body17 g0 rfl rfl (by simp [rmD, rmC, fD]) ?_
 simp -dsimp [rmT, rmD, rmC]
 repeat(first|apply wG|(apply wR;simp -dsimp)|refine aI ?_)
 refine vcStop.call0 Tryz.body35 k6 rfl rfl (by simp) ?_
 simp -dsimp
 repeat(first|apply wG|(apply wR;simp -dsimp)|refine aI ?_)
 refine vcStop.call0 Tryz.body17 g1 rfl rfl (by simp [rmD, rmC, fD]) ?_
 simp -dsimp [rmT, rmD_ze]
 repeat(first|apply wG|(apply wR;simp -dsimp)|refine aI ?_)
 refine vcStop.call0L Tryz.body17 gz rfl rfl (And.intro (by simp [rmD, rmC]) (And.intro (Leq.aggD (fcs f0 0 57)) trivial)) ?_
 simp -dsimp [rmT, rmD_ze]
 repeat(first|apply wG|(apply wR;simp -dsimp)|refine aI ?_)
 refine vcStop.call0 Tryz.body21 c0 rfl rfl (by simp [rmD, rmC]) ?_
 simp -dsimp [rmT, rmD_ze]
 repeat(first|apply wG|(apply wR;simp -dsimp)|refine aI ?_)
 refine vcStop.call0 Tryz.body21 c1 rfl rfl (by simp [rmD, rmC]) ?_
 simp -dsimp [rmT, rmD, rmC]
 repeat(first|apply wG|(apply wR;simp -dsimp)|refine aI ?_)
 refine vcStop.call0 Tryz.body19 b1 rfl rfl (by simp [rmD, rmC]) ?_
 simp -dsimp
 repeat(first|apply wG|(apply wR;simp -dsimp)|refine aI ?_)
 refine vcStop.call0 Tryz.body19 b2 rfl rfl (by simp [rmD, rmC]) ?_
 simp -dsimp
 repeat(first|apply wG|(apply wR;simp -dsimp)|refine aI ?_)
 refine vcStop.call0 Tryz.body23 s2 rfl rfl (by simp [rmD, rmC]) ?_
 simp -dsimp [rmT, rmD, rmC]
 repeat(first|apply wG|(apply wR;simp -dsimp)|refine aI ?_)
 refine cF (by simp) ?_
 refine WP.skip ?_
 simp -dsimp
 repeat(first|apply wG|(apply wR;simp -dsimp [lp, t0, t1, p0, p1, Nat.zero_add])|refine aI ?_)
 simp -dsimp [p0, p1, lp]
 refine And.intro (by simp [lp]) ?_
 simp -dsimp [t0, t1, p0, p1, lp]
 repeat refine aI ?_
 refine vcStopG.call0 Tryz.body15 (fun _ => x0) rfl (fun _ => rfl) (fun _ => by simp [rmD, rmC]) ?_
 simp -dsimp
 repeat(first|apply wG|(apply wR;simp -dsimp)|refine aI ?_)
 refine vcStopG.call0L Tryz.body15 (fun _ => xz) rfl (fun _ => rfl) (fun _ => And.intro (by simp [rmD_ze]) trivial) ?_
 simp -dsimp
 repeat(first|apply wG|(apply wR;simp -dsimp)|refine aI ?_)
 refine vcStopG.call0 Tryz.body14 (fun _ => sm) rfl (fun _ => rfl) (fun _ => by simp [rmD, rmC]) ?_
 simp -dsimp
 repeat(first|apply wG|(apply wR;simp -dsimp)|refine aI ?_)
 refine WP.ret (finQ.retE ?_)
 simp -dsimp
end Go.Proofs.YtfgcgagcpnbgmaaGreatDoor
set_option maxRecDepth 10000
set_option linter.unusedVariables false
set_option linter.unusedSimpArgs false
set_option linter.unusedSectionVars false
namespace Go.Proofs.YtfgcgagcpnbgmaaGreatDoor
open Go.Xe Go.RowKit
def cntB : List By → Nat
 | [] => 0
 | b :: l => 1 + b.length + cntB l
theorem cntB_app (a b : List By) : cntB (a ++ b) = cntB a + cntB b := by
 induction a with
 | nil => simp [cntB]
 | cons x a ih => rw [List.cons_append, cntB, cntB, ih]; omega
theorem cntB_step (l : List By) {i : Nat} (h : i < l.length) : cntB (l.take (i + 1)) = cntB (l.take i) + (1 + l[i].length) := by
 have e : l.take (i + 1) = l.take i ++ [l[i]] := by rw [List.take_add_one, List.getElem?_eq_getElem h]; rfl
 rw [e, cntB_app]; simp [cntB]
theorem cntB_le (l : List By) (i : Nat) : cntB (l.take i) ≤ cntB l := by
 have h := cntB_app (l.take i) (l.drop i)
 rw [List.take_append_drop] at h; omega
theorem cntB_len (l : List By) : l.length ≤ cntB l := by
 induction l with
 | nil => exact Nat.zero_le _
 | cons x l ih => rw [cntB, List.length_cons]; omega
def cntW (l : List (Int × By)) : Nat := cntB (l.map (·.2))
theorem cntW_step (l : List (Int × By)) {i : Nat} (h : i < l.length) : cntW (l.take (i + 1)) = cntW (l.take i) + (1 + l[i].2.length) := by
 rw [cntW, cntW, List.map_take, List.map_take, cntB_step _ (by simpa using h), List.getElem_map]
theorem cntW_le (l : List (Int × By)) (i : Nat) : cntW (l.take i) ≤ cntW l := by
 rw [cntW, cntW, List.map_take]; exact cntB_le _ _
def fewD (d : Dk) : Bool := decide (cntB d.s + cntW d.p ≤ 9000)
theorem wrC_getE : ∀ {l : List (Int × By)} {i : Nat} (h : i < l.length), List.take 2 ((wrC l).drop (i * 2)) = [.v (.int .i64 l[i].1), slB l[i].2] := fun {l i} h => by
 have e := wrC_at (l.take i) l[i] (l.drop (i + 1))
 rw [← List.drop_eq_getElem_cons h, List.take_append_drop] at e
 rwa [show (l.take i).length = i by rw [List.length_take]; omega] at e
abbrev fdA (d : Dk) (i : Nat) : St := mkS 49 [(1, .ptr 1 0), (3, .d (.v (.int .i64 (cntB (d.s.take i))))), (4, .d (.v (.int .i64 i)))] [(1, .cells 28 ((dkC d).map .d))]
abbrev fdB (d : Dk) (N : Nat) (i : Nat) : St := mkS 49 [(1, .ptr 1 0), (3, .d (.v (.int .i64 ((N + cntW (d.p.take i) : Nat) : Int)))), (5, .d (.v (.int .i64 i)))] [(1, .cells 28 ((dkC d).map .d))]
set_option maxHeartbeats 1000000 in
theorem fewDk_ok (d : Dk) (hs : ∀ b ∈ d.s, b.length ≤ 200000000000000) (ns : d.s.length ≤ 10000000000000) (hp : ∀ w ∈ d.p, w.2.length ≤ 200000000000000) (np : d.p.length ≤ 10000000000000) : Fn0 Tryz.prog 36 [dkD d] (.v (.bool (fewD d))) := by
 have la := lsB_len d.s
 have lw := wrC_len d.p
 refine Fun.of_wp (pn := noPn) Tryz.tab Tryz.func36 rfl fun β0 => ?_
 simp only [Tryz.f36]
 repeat(first|apply wG|(apply wR;simp -dsimp [dkD, dkC])|refine aI ?_)
 refine WP.loopWk (fun q S => ∃ i : Nat, q = d.s.length - i ∧ i ≤ d.s.length ∧ cntB (d.s.take i) ≤ 300000000000000 ∧ S = fdA d i) d.s.length (S0 := fdA d 0) (Wk.lessE [] (by simp [cntB]) (by simp [dkC])) ⟨0, rfl, by omega, by simp [cntB], rfl⟩ ?_
 rintro _ _ ⟨i, rfl, hi, hb, rfl⟩
 simp -dsimp [dkC]
 repeat(first|apply wG|(apply wR;simp -dsimp [dkC])|refine aI ?_)
 by_cases hin : i < d.s.length ∧ cntB (d.s.take i) ≤ 9000
 ·obtain ⟨hin, hb⟩ := hin
  have e1 : IntKind.i64.wrap ((i : Int) + 1) = ((i + 1 : Nat) : Int) := by rw [IntWalk.i64_in _ (by omega)]; omega
  have hl := hs _ (List.getElem_mem hin)
  have hst := cntB_step d.s hin
  have e2 : IntKind.i64.wrap ((cntB (d.s.take i) : Int) + 1) = (cntB (d.s.take i) : Int) + 1 := IntWalk.i64_in _ (by omega)
  have e3 : IntKind.i64.wrap ((cntB (d.s.take i) : Int) + 1 + (d.s[i].length : Int)) = (cntB (d.s.take (i + 1)) : Int) := by rw [IntWalk.i64_in _ (by omega)]; omega
  refine cT (by simp; omega) ?_
  refine WP.skip ?_
  simp -dsimp
  repeat(first|apply wG|(apply wR;simp -dsimp [lsB_getE, la, hin, dkC, slB, e2, e3])|refine aI ?_)
  refine loopW.next (fdA d (i + 1)) (Wk.lessE [] (by simp [e1, e2, e3]) (by simp [dkC])) (d.s.length - (i + 1)) (by omega) ⟨i + 1, rfl, by omega, by omega, rfl⟩
 ·have hfin : 9000 < cntB (d.s.take i) ∨ i = d.s.length := by omega
  have hle := cntB_le d.s i
  have hN : cntB (d.s.take i) ≤ 9000 → cntB (d.s.take i) = cntB d.s := fun h => by
   rcases hfin with h2 | h2
   ·omega
   ·rw [h2, List.take_length]
  refine cF (by simp; omega) ?_
  refine WP.exit ?_
  generalize cntB (d.s.take i) = N at *
  simp -dsimp
  repeat(first|apply wG|(apply wR;simp -dsimp)|refine aI ?_)
  refine WP.loopWk (fun q S => ∃ j : Nat, q = d.p.length - j ∧ j ≤ d.p.length ∧ N + cntW (d.p.take j) ≤ 600000000000000 ∧ S = fdB d N j) d.p.length (S0 := fdB d N 0) (Wk.lessE [] (by simp [cntW, cntB]) (by simp [dkC])) ⟨0, rfl, by omega, by simp [cntW, cntB]; omega, rfl⟩ ?_
  rintro _ _ ⟨j, rfl, hj, hc, rfl⟩
  simp -dsimp [dkC]
  repeat(first|apply wG|(apply wR;simp -dsimp [dkC])|refine aI ?_)
  by_cases hjn : j < d.p.length ∧ N + cntW (d.p.take j) ≤ 9000
  ·obtain ⟨hjn, hb2⟩ := hjn
   have e1 : IntKind.i64.wrap ((j : Int) + 1) = ((j + 1 : Nat) : Int) := by rw [IntWalk.i64_in _ (by omega)]; omega
   have hl := hp _ (List.getElem_mem hjn)
   have hst := cntW_step d.p hjn
   have hat := wrC_getE hjn
   have e2 : IntKind.i64.wrap ((N : Int) + (cntW (d.p.take j) : Int) + 1) = (N : Int) + (cntW (d.p.take j) : Int) + 1 := IntWalk.i64_in _ (by omega)
   have e3 : IntKind.i64.wrap ((N : Int) + (cntW (d.p.take j) : Int) + 1 + (d.p[j].2.length : Int)) = (N : Int) + (cntW (d.p.take (j + 1)) : Int) := by rw [IntWalk.i64_in _ (by omega)]; omega
   refine cT (by simp; omega) ?_
   refine WP.skip ?_
   simp -dsimp
   repeat(first|apply wG|(apply wR;simp -dsimp [hat, lw, hjn, dkC, slB, e2, e3])|refine aI ?_)
   refine loopW.next (fdB d N (j + 1)) (Wk.lessE [] (by simp [e1, e2, e3]) (by simp [dkC])) (d.p.length - (j + 1)) (by omega) ⟨j + 1, rfl, by omega, by omega, rfl⟩
  ·have hfin2 : 9000 < N + cntW (d.p.take j) ∨ j = d.p.length := by omega
   have hle2 := cntW_le d.p j
   have hres : decide ((N : Int) + (cntW (d.p.take j) : Int) ≤ 9000) = fewD d := by
    rw [fewD, decide_eq_decide]
    rcases hfin2 with h2 | h2
    ·omega
    ·subst h2
     rw [List.take_length]
     constructor
     ·intro h
      have := hN (by omega)
      omega
     ·intro h
      omega
   refine cF (by simp; omega) ?_
   refine WP.exit ?_
   simp -dsimp
   repeat(first|apply wG|(apply wR;simp -dsimp)|refine aI ?_)
   refine WP.ret (finQ.retE ?_)
   simp -dsimp [hres]
def fewR (r : Rm) : Bool := decide (r.seed.length ≤ 100 ∧ r.many ≤ 4 ∧ cntB r.lr ≤ 4000) && (fewD r.dk && (decide (r.fs.length ≤ 6) && r.fs.all shrtT))
abbrev fwrS (r : Rm) (i : Nat) : St := mkS 52 [(1, .ptr 1 0), (3, .d (.v (.int .i64 (cntB (r.lr.take i))))), (4, .d (.v (.int .i64 i)))] [(1, .cells 33 ((rmC r).map .d))]
set_option maxHeartbeats 1000000 in
theorem fewRm_ok (r : Rm) (hd : Fn0 Tryz.prog 36 [dkD r.dk] (.v (.bool (fewD r.dk)))) (hr : ∀ b ∈ r.lr, b.length ≤ 200000000000000) (nr : r.lr.length ≤ 10000000000000) (hl : ∀ p ∈ r.fs, sgOk p ∧ sgT p) (nl : r.fs.length ≤ 1000000000000) : Fn0 Tryz.prog 11 [rmD r] (.v (.bool (fewR r))) := by
 have la := lsB_len r.lr
 have h37 := few13T_ok r.fs false 6 (fun p hp => (hl p hp).1) (fun p hp => sgT_F (hl p hp).2) nl
 refine Fun.of_wp (pn := noPn) Tryz.tab Tryz.func11 rfl fun β0 => ?_
 simp only [Tryz.f11]
 repeat(first|apply wG|(apply wR;simp -dsimp [rmD, rmC])|refine aI ?_)
 refine WP.loopWk (fun q S => ∃ i : Nat, q = r.lr.length - i ∧ i ≤ r.lr.length ∧ cntB (r.lr.take i) ≤ 300000000000000 ∧ S = fwrS r i) r.lr.length (S0 := fwrS r 0) (Wk.lessE [] (by simp [cntB]) (by simp [rmC])) ⟨0, rfl, by omega, by simp [cntB], rfl⟩ ?_
 rintro _ _ ⟨i, rfl, hi, hb, rfl⟩
 simp -dsimp [rmC]
 repeat(first|apply wG|(apply wR;simp -dsimp [rmC])|refine aI ?_)
 by_cases hin : i < r.lr.length ∧ cntB (r.lr.take i) ≤ 4000
 ·obtain ⟨hin, hb⟩ := hin
  have e1 : IntKind.i64.wrap ((i : Int) + 1) = ((i + 1 : Nat) : Int) := by rw [IntWalk.i64_in _ (by omega)]; omega
  have hl := hr _ (List.getElem_mem hin)
  have hst := cntB_step r.lr hin
  have e2 : IntKind.i64.wrap ((cntB (r.lr.take i) : Int) + 1) = (cntB (r.lr.take i) : Int) + 1 := IntWalk.i64_in _ (by omega)
  have e3 : IntKind.i64.wrap ((cntB (r.lr.take i) : Int) + 1 + (r.lr[i].length : Int)) = (cntB (r.lr.take (i + 1)) : Int) := by rw [IntWalk.i64_in _ (by omega)]; omega
  refine cT (by simp; omega) ?_
  refine WP.skip ?_
  simp -dsimp
  repeat(first|apply wG|(apply wR;simp -dsimp [lsB_getE, la, hin, rmC, slB, e2, e3])|refine aI ?_)
  refine loopW.next (fwrS r (i + 1)) (Wk.lessE [] (by simp [e1, e2, e3]) (by simp [rmC])) (r.lr.length - (i + 1)) (by omega) ⟨i + 1, rfl, by omega, by omega, rfl⟩
 ·have hfin : 4000 < cntB (r.lr.take i) ∨ i = r.lr.length := by omega
  have hle := cntB_le r.lr i
  have hN : cntB (r.lr.take i) ≤ 4000 ↔ cntB r.lr ≤ 4000 := by
   rcases hfin with h2 | h2
   ·omega
   ·rw [h2, List.take_length]
  refine cF (by simp; omega) ?_
  refine WP.exit ?_
  generalize cntB (r.lr.take i) = N at *
  have hfew : fewR r = (decide ((r.seed.length : Int) ≤ 100) && (decide (r.many ≤ 4) && (decide ((N : Int) ≤ 4000) && (fewD r.dk && (decide (r.fs.length ≤ 6) && r.fs.all shrtT))))) := by
   have e1 : decide (r.seed.length ≤ 100 ∧ r.many ≤ 4 ∧ cntB r.lr ≤ 4000) = (decide ((r.seed.length : Int) ≤ 100) && (decide (r.many ≤ 4) && decide ((N : Int) ≤ 4000))) := by
    rw [Bool.eq_iff_iff]
    simp only [Bool.and_eq_true, decide_eq_true_eq]
    omega
   rw [fewR, e1, Bool.and_assoc, Bool.and_assoc]
  rw [hfew]
  cases a1 : decide ((r.seed.length : Int) ≤ 100) with
  | false =>
   simp -dsimp [rmC, a1]
   repeat(first|apply wG|(apply wR;simp -dsimp [rmC, slB, a1])|refine aI ?_)
   refine vcStopG.skip (.d (.v (.bool false))) ?_
   simp -dsimp [a1]
   repeat(first|apply wG|(apply wR;simp -dsimp [a1])|refine aI ?_)
   refine vcStopG.skip (.d (.v (.bool false))) ?_
   simp -dsimp [a1]
   repeat(first|apply wG|(apply wR;simp -dsimp [a1])|refine aI ?_)
   refine WP.ret (finQ.retE ?_)
   simp -dsimp
  | true =>
   cases a2 : decide (r.many ≤ 4) with
   | false =>
    simp -dsimp [rmC, a1, a2]
    repeat(first|apply wG|(apply wR;simp -dsimp [rmC, slB, a1, a2])|refine aI ?_)
    refine vcStopG.skip (.d (.v (.bool false))) ?_
    simp -dsimp [a1]
    repeat(first|apply wG|(apply wR;simp -dsimp [a1])|refine aI ?_)
    refine vcStopG.skip (.d (.v (.bool false))) ?_
    simp -dsimp [a1]
    repeat(first|apply wG|(apply wR;simp -dsimp [a1])|refine aI ?_)
    refine WP.ret (finQ.retE ?_)
    simp -dsimp
   | true =>
    cases a3 : decide ((N : Int) ≤ 4000) with
    | false =>
     simp -dsimp [rmC, a1, a2, a3]
     repeat(first|apply wG|(apply wR;simp -dsimp [rmC, slB, a1, a2, a3])|refine aI ?_)
     refine vcStopG.skip (.d (.v (.bool false))) ?_
     simp -dsimp [a1]
     repeat(first|apply wG|(apply wR;simp -dsimp [a1])|refine aI ?_)
     refine vcStopG.skip (.d (.v (.bool false))) ?_
     simp -dsimp [a1]
     repeat(first|apply wG|(apply wR;simp -dsimp [a1])|refine aI ?_)
     refine WP.ret (finQ.retE ?_)
     simp -dsimp
    | true =>
     simp -dsimp [rmC, a1, a2, a3]
     repeat(first|apply wG|(apply wR;simp -dsimp [rmC, slB, a1, a2, a3])|refine aI ?_)
     refine vcStopG.call0 Tryz.body36 (fun _ => hd) rfl (fun _ => rfl) (fun _ => by simp [dkD, dkC]) ?_
     generalize fewD r.dk = x
     cases x with
     | false =>
      simp -dsimp
      repeat(first|apply wG|(apply wR;simp -dsimp)|refine aI ?_)
      refine vcStopG.skip (.d (.v (.bool false))) ?_
      simp -dsimp
      repeat(first|apply wG|(apply wR;simp -dsimp)|refine aI ?_)
      refine WP.ret (finQ.retE ?_)
      simp -dsimp
     | true =>
      simp -dsimp
      repeat(first|apply wG|(apply wR;simp -dsimp)|refine aI ?_)
      refine vcStopG.call0 Tryz.body37 (fun _ => h37) rfl (fun _ => rfl) (fun _ => by simp) ?_
      simp -dsimp
      repeat(first|apply wG|(apply wR;simp -dsimp)|refine aI ?_)
      refine WP.ret (finQ.retE ?_)
      simp -dsimp
structure rmG (r : Rm) : Prop where
 c : isI r.crew
 m : isI r.many
 u : isI r.used
 sd : r.seed.length ≤ 200000000000000
 ds : (∀ b ∈ r.dk.s, b.length ≤ 200000000000000) ∧ r.dk.s.length ≤ 10000000000000
 dp : (∀ w ∈ r.dk.p, isI w.1 ∧ w.2.length ≤ 200000000000000) ∧ r.dk.p.length ≤ 10000000000000
 dl : isI r.dk.left
 lm : isI r.lm
 lr : (∀ b ∈ r.lr, b.length ≤ 200000000000000) ∧ r.lr.length ≤ 10000000000000
 ls : isI r.ls
 fo : ∀ p ∈ r.fs, fOk p.1 ∧ sgT p
 fl : r.fs.length ≤ 1000000000000
 st : isI r.sent
theorem fewR_ok {r : Rm} (h : fewR r = true) (g : isI r.crew ∧ isI r.many ∧ isI r.used ∧ isI r.dk.left) (hl : ∀ p ∈ r.fs, sgOk p ∧ sgT p) : rmOk r ∧ r.fs.length ≤ 6 := by
 simp only [fewR, fewD, Bool.and_eq_true, decide_eq_true_eq] at h
 obtain ⟨⟨h1, h2, h3⟩, h4, h5, h6⟩ := h
 have n1 := cntB_len r.lr
 have n2 := cntB_len r.dk.s
 have n3 := cntB_len (r.dk.p.map (·.2))
 rw [List.length_map] at n3
 have e : cntW r.dk.p = cntB (r.dk.p.map (·.2)) := rfl
 exact ⟨⟨g.1, g.2.1, g.2.2.1, ⟨by omega, by omega, g.2.2.2⟩, by omega, by omega, by omega, hl⟩, h5⟩
end Go.Proofs.YtfgcgagcpnbgmaaGreatDoor
set_option linter.unusedVariables false
set_option linter.unusedSimpArgs false
set_option linter.unusedSectionVars false
namespace Go.Proofs.YtfgcgagcpnbgmaaGreatDoor
open Go.Xe Go.RowKit
theorem Tryz.own : ownKnob Tryz.prog.godebug = none := by kernel_rfl
theorem Tryz.laidOut : laidOutB Tryz.prog = true := by kernel_rfl
def Tryz.L : List TypeId := [5, 22, 24, 87, 78, 80, 82, 25, 147, 26, 28, 30, 31, 33, 77] ++ FL
theorem Tryz.gok : gOk Tryz.τ Tryz.L = true := by decide
theorem ok_int {n : Nat} {ds : List D} (h : OkD Tryz.τ n 3 ds) : ∃ x, ds = [.v (.int .i64 x)] ∧ isI x := by
 cases n with
 | zero => exact h.elim
 | succ n =>
  simp only [OkD, Tryz.τ3] at h
  exact h
theorem ok_bool {n : Nat} {ds : List D} (h : OkD Tryz.τ n 4 ds) : ∃ b, ds = [.v (.bool b)] := by
 cases n with
 | zero => exact h.elim
 | succ n =>
  simp only [OkD, Tryz.τ4] at h
  exact h
theorem ok_byte {n : Nat} {ds : List D} (h : OkD Tryz.τ n 5 ds) : ∃ c : UInt8, ds = [byteD c] := by
 cases n with
 | zero => exact h.elim
 | succ n =>
  simp only [OkD, Tryz.τ5] at h
  obtain ⟨x, rfl, h1, h2⟩ := h
  have h1 : (0 : Int) ≤ x := h1
  have h2 : x ≤ 255 := h2
  refine ⟨UInt8.ofNat x.toNat, ?_⟩
  rw [byteD]
  simp
  omega
theorem ok_bys {n : Nat} : ∀ l : List (List D), (∀ x ∈ l, OkD Tryz.τ n 5 x) → ∃ bs : List UInt8, l.flatten = bys bs ∧ l.length = bs.length
 | [], _ => ⟨[], rfl, rfl⟩
 | x :: l, h => by
  obtain ⟨c, hc⟩ := ok_byte (h x (by simp))
  obtain ⟨bs, h2, h3⟩ := ok_bys l fun y hy => h y (by simp [hy])
  exact ⟨c :: bs, by rw [List.flatten_cons, hc, h2]; rfl, by simp [h3]⟩
theorem ok_bytes {n : Nat} {ds : List D} (h : OkD Tryz.τ n 22 ds) : ∃ bs : List UInt8, ds = [slB bs] ∧ bs.length ≤ 200000000000000 := by
 cases n with
 | zero => exact h.elim
 | succ n =>
  simp only [OkD, Tryz.τ22] at h
  obtain ⟨l, rfl, h1, hb⟩ := h
  obtain ⟨bs, h2, h3⟩ := ok_bys l h1
  have e : tby Tryz.τ 5 = 1 := rfl
  rw [e] at hb
  exact ⟨bs, by rw [h2, h3]; rfl, by omega⟩
theorem ok_byss {n : Nat} {ds : List D} (h : OkD Tryz.τ n 25 ds) : ∃ l : List By, ds = [slLB l] ∧ (∀ b ∈ l, b.length ≤ 200000000000000) ∧ l.length ≤ 10000000000000 := by
 cases n with
 | zero => exact h.elim
 | succ n =>
  simp only [OkD, Tryz.τ25] at h
  obtain ⟨m, rfl, h1, hb⟩ := h
  have key : ∀ m : List (List D), (∀ x ∈ m, OkD Tryz.τ n 22 x) → ∃ l : List By, m.flatten = lsB l ∧ m.length = l.length ∧ ∀ b ∈ l, b.length ≤ 200000000000000 := by
   intro m
   induction m with
   | nil => intro _; exact ⟨[], rfl, rfl, fun _ h => by cases h⟩
   | cons x m ih =>
    intro h
    obtain ⟨d, hd, hl⟩ := ok_bytes (h x (by simp))
    obtain ⟨l, h2, h3, h4⟩ := ih fun y hy => h y (by simp [hy])
    refine ⟨d :: l, by rw [List.flatten_cons, hd, h2]; rfl, by simp [h3], fun y hy => ?_⟩
    rcases List.mem_cons.1 hy with rfl | hy
    ·exact hl
    ·exact h4 y hy
  obtain ⟨l, h2, h3, h4⟩ := key m h1
  have e : tby Tryz.τ 22 = 24 := rfl
  rw [e] at hb
  exact ⟨l, by rw [h2, h3]; rfl, h4, by omega⟩
theorem ok_dg {n : Nat} {ds : List D} (h : OkD Tryz.τ n 87 ds) : ∃ d : Dg, ds = bys d ∧ d.length = 32 := by
 cases n with
 | zero => exact h.elim
 | succ n =>
  simp only [OkD, Tryz.τ87] at h
  obtain ⟨l, rfl, h1, h2⟩ := h
  obtain ⟨bs, h3, h4⟩ := ok_bys l h2
  exact ⟨bs, h3, by rw [← h4, h1]⟩
theorem ok_dgsT {n : Nat} {ds : List D} (h : OkD Tryz.τ n 78 ds) : ∃ l : List Dg, ds = [slG l] ∧ all32 l ∧ l.length ≤ 10000000000000 := by
 cases n with
 | zero => exact h.elim
 | succ n =>
  simp only [OkD, Tryz.τ78] at h
  obtain ⟨m, rfl, h1, hb⟩ := h
  have key : ∀ m : List (List D), (∀ x ∈ m, OkD Tryz.τ n 87 x) → ∃ l : List Dg, m.flatten = dgL l ∧ m.length = l.length ∧ all32 l := by
   intro m
   induction m with
   | nil => intro _; exact ⟨[], rfl, rfl, fun _ h => by cases h⟩
   | cons x m ih =>
    intro h
    obtain ⟨d, hd, hl⟩ := ok_dg (h x (by simp))
    obtain ⟨l, h2, h3, h4⟩ := ih fun y hy => h y (by simp [hy])
    refine ⟨d :: l, by rw [List.flatten_cons, hd, h2]; rfl, by simp [h3], fun y hy => ?_⟩
    rcases List.mem_cons.1 hy with rfl | hy
    ·exact hl
    ·exact h4 y hy
  obtain ⟨l, h2, h3, h4⟩ := key m h1
  have e : tby Tryz.τ 87 = 32 := rfl
  rw [e] at hb
  exact ⟨l, by rw [h2, h3]; rfl, h4, by omega⟩
theorem ok_sigT {n : Nat} {ds : List D} (h : OkD Tryz.τ n 80 ds) : ∃ (k : Int) (op cl pa : List Dg), ds = sigC k op cl pa ∧ sigG k op cl pa := by
 cases n with
 | zero => exact h.elim
 | succ n =>
  simp only [OkD, Tryz.τ80] at h
  obtain ⟨l, rfl, hl, h⟩ := h
  match l, hl, h with
  | [a, b, c, d], _, h =>
   obtain ⟨x, ha, hx⟩ := ok_int (h 0 a (0, 3) rfl rfl)
   obtain ⟨l1, hb, h1, n1⟩ := ok_dgsT (h 1 b (1, 78) rfl rfl)
   obtain ⟨l2, hc, h2, n2⟩ := ok_dgsT (h 2 c (2, 78) rfl rfl)
   obtain ⟨l3, hd, h3, n3⟩ := ok_dgsT (h 3 d (3, 78) rfl rfl)
   subst ha hb hc hd
   exact ⟨x, l1, l2, l3, rfl, hx, h1, h2, h3, n1, n2, n3⟩
theorem ok_signedT {n : Nat} {ds : List D} (h : OkD Tryz.τ n 82 ds) : ∃ p : Sg, ds = sgc p ∧ fOk p.1 ∧ sgT p := by
 cases n with
 | zero => exact h.elim
 | succ n =>
  simp only [OkD, Tryz.τ82] at h
  obtain ⟨l, rfl, hl, h⟩ := h
  match l, hl, h with
  | [a, b], _, h =>
   obtain ⟨f, rfl, hf⟩ := fact_of (h 0 a (0, 67) rfl rfl)
   obtain ⟨k, l1, l2, l3, rfl, hg⟩ := ok_sigT (h 1 b (57, 80) rfl rfl)
   exact ⟨(f, _), by simp [sgc, sigC], hf, k, l1, l2, l3, rfl, hg⟩
theorem ok_signedsT {n : Nat} {ds : List D} (h : OkD Tryz.τ n 31 ds) : ∃ l : List Sg, ds = [sgD l false] ∧ (∀ p ∈ l, fOk p.1 ∧ sgT p) ∧ l.length ≤ 1000000000000 := by
 cases n with
 | zero => exact h.elim
 | succ n =>
  simp only [OkD, Tryz.τ31] at h
  obtain ⟨m, rfl, h1, h2⟩ := h
  have key : ∀ m : List (List D), (∀ x ∈ m, OkD Tryz.τ n 82 x) → ∃ l : List Sg, m.flatten = sgC l ∧ l.length = m.length ∧ ∀ p ∈ l, fOk p.1 ∧ sgT p := by
   intro m
   induction m with
   | nil => intro _; exact ⟨[], rfl, rfl, fun _ h => by cases h⟩
   | cons x m ih =>
    intro h
    obtain ⟨p, hp, hpo⟩ := ok_signedT (h x (by simp))
    obtain ⟨l, h3, h4, h5⟩ := ih fun y hy => h y (by simp [hy])
    refine ⟨p :: l, ?_, by simp [h4], fun q hq => ?_⟩
    ·rw [List.flatten_cons, hp, h3]; rfl
    ·rcases List.mem_cons.1 hq with rfl | hq
     ·exact hpo
     ·exact h5 q hq
  obtain ⟨l, h3, h4, h5⟩ := key m h1
  refine ⟨l, ?_, h5, ?_⟩
  ·rw [h3, ← h4]
   rfl
  ·have e : tby Tryz.τ 82 = 536 := rfl
   rw [e] at h2
   omega
theorem ok_write {n : Nat} {ds : List D} (h : OkD Tryz.τ n 147 ds) : ∃ w : Int × By, ds = [.v (.int .i64 w.1), slB w.2] ∧ isI w.1 ∧ w.2.length ≤ 200000000000000 := by
 cases n with
 | zero => exact h.elim
 | succ n =>
  simp only [OkD, Tryz.τ147] at h
  obtain ⟨l, rfl, hl, h⟩ := h
  match l, hl, h with
  | [a, b], _, h =>
   obtain ⟨x, rfl, hx⟩ := ok_int (h 0 a (0, 3) rfl rfl)
   obtain ⟨s, rfl, hs⟩ := ok_bytes (h 1 b (1, 22) rfl rfl)
   exact ⟨(x, s), rfl, hx, hs⟩
theorem ok_writes {n : Nat} {ds : List D} (h : OkD Tryz.τ n 26 ds) : ∃ l : List (Int × By), ds = [wrD l] ∧ (∀ w ∈ l, isI w.1 ∧ w.2.length ≤ 200000000000000) ∧ l.length ≤ 10000000000000 := by
 cases n with
 | zero => exact h.elim
 | succ n =>
  simp only [OkD, Tryz.τ26] at h
  obtain ⟨m, rfl, h1, h2⟩ := h
  have key : ∀ m : List (List D), (∀ x ∈ m, OkD Tryz.τ n 147 x) → ∃ l : List (Int × By), m.flatten = wrC l ∧ l.length = m.length ∧ ∀ w ∈ l, isI w.1 ∧ w.2.length ≤ 200000000000000 := by
   intro m
   induction m with
   | nil => intro _; exact ⟨[], rfl, rfl, fun _ h => by cases h⟩
   | cons x m ih =>
    intro h
    obtain ⟨p, hp, hpo⟩ := ok_write (h x (by simp))
    obtain ⟨l, h3, h4, h5⟩ := ih fun y hy => h y (by simp [hy])
    refine ⟨p :: l, ?_, by simp [h4], fun q hq => ?_⟩
    ·rw [List.flatten_cons, hp, h3]; rfl
    ·rcases List.mem_cons.1 hq with rfl | hq
     ·exact hpo
     ·exact h5 q hq
  obtain ⟨l, h3, h4, h5⟩ := key m h1
  refine ⟨l, ?_, h5, ?_⟩
  ·rw [h3, ← h4]
   rfl
  ·have e : tby Tryz.τ 147 = 32 := rfl
   rw [e] at h2
   omega
abbrev Ky := List UInt8 × Int × Int
theorem ok_key {n : Nat} {ds : List D} (h : OkD Tryz.τ n 24 ds) : ∃ k : Ky, ds = [slB k.1, .v (.int .i64 k.2.1), .v (.int .i64 k.2.2)] ∧ isI k.2.1 ∧ isI k.2.2 ∧ k.1.length ≤ 200000000000000 := by
 cases n with
 | zero => exact h.elim
 | succ n =>
  simp only [OkD, Tryz.τ24] at h
  obtain ⟨l, rfl, hl, h⟩ := h
  match l, hl, h with
  | [a, b, c], _, h =>
   obtain ⟨s, rfl, hs⟩ := ok_bytes (h 0 a (0, 22) rfl rfl)
   obtain ⟨x, rfl, hx⟩ := ok_int (h 1 b (1, 3) rfl rfl)
   obtain ⟨y, rfl, hy⟩ := ok_int (h 2 c (2, 3) rfl rfl)
   exact ⟨(s, x, y), rfl, hx, hy, hs⟩
theorem ok_disk {n : Nat} {ds : List D} (h : OkD Tryz.τ n 28 ds) : ∃ d : Dk, ds = dkC d ∧ ((∀ b ∈ d.s, b.length ≤ 200000000000000) ∧ d.s.length ≤ 10000000000000) ∧ ((∀ w ∈ d.p, isI w.1 ∧ w.2.length ≤ 200000000000000) ∧ d.p.length ≤ 10000000000000) ∧ isI d.left := by
 cases n with
 | zero => exact h.elim
 | succ n =>
  simp only [OkD, Tryz.τ28] at h
  obtain ⟨l, rfl, hl, h⟩ := h
  match l, hl, h with
  | [a, b, c, d], _, h =>
   obtain ⟨s, rfl, hs⟩ := ok_byss (h 0 a (0, 25) rfl rfl)
   obtain ⟨p, rfl, hp⟩ := ok_writes (h 1 b (1, 26) rfl rfl)
   obtain ⟨x, rfl, hx⟩ := ok_int (h 2 c (2, 3) rfl rfl)
   obtain ⟨y, rfl⟩ := ok_bool (h 3 d (3, 4) rfl rfl)
   exact ⟨⟨s, p, x, y⟩, rfl, hs, hp, hx⟩
theorem ok_log {n : Nat} {ds : List D} (h : OkD Tryz.τ n 30 ds) : ∃ (m : Int) (l : List By) (s : Int), ds = [.v (.int .i64 m), slLB l, .v (.int .i64 s)] ∧ isI m ∧ ((∀ b ∈ l, b.length ≤ 200000000000000) ∧ l.length ≤ 10000000000000) ∧ isI s := by
 cases n with
 | zero => exact h.elim
 | succ n =>
  simp only [OkD, Tryz.τ30] at h
  obtain ⟨l, rfl, hl, h⟩ := h
  match l, hl, h with
  | [a, b, c], _, h =>
   obtain ⟨x, rfl, hx⟩ := ok_int (h 0 a (0, 3) rfl rfl)
   obtain ⟨s, rfl, hs⟩ := ok_byss (h 1 b (1, 25) rfl rfl)
   obtain ⟨y, rfl, hy⟩ := ok_int (h 2 c (2, 3) rfl rfl)
   exact ⟨x, s, y, rfl, hx, hs, hy⟩
theorem arg_remote {n : Nat} {ds : List D} (h : OkD Tryz.τ n 33 ds) : ∃ r : Rm, argOf Tryz.τ 33 ds = rmD r ∧ rmG r := by
 cases n with
 | zero => exact h.elim
 | succ n =>
  simp only [OkD, Tryz.τ33] at h
  obtain ⟨l, rfl, hl, h⟩ := h
  match l, hl, h with
  | [a, b, c, d, e, f], _, h =>
   obtain ⟨x, rfl, hx⟩ := ok_int (h 0 a (0, 3) rfl rfl)
   obtain ⟨k, rfl, k1, k2, k3⟩ := ok_key (h 1 b (1, 24) rfl rfl)
   obtain ⟨dk, rfl, d1, d2, d3⟩ := ok_disk (h 2 c (4, 28) rfl rfl)
   obtain ⟨m, lr, s, rfl, l1, l2, l3⟩ := ok_log (h 3 d (8, 30) rfl rfl)
   obtain ⟨fs, rfl, f1, f2⟩ := ok_signedsT (h 4 e (11, 31) rfl rfl)
   obtain ⟨y, rfl, hy⟩ := ok_int (h 5 f (12, 3) rfl rfl)
   exact ⟨⟨x, k.1, k.2.1, k.2.2, dk, m, lr, s, fs, y⟩, rfl, hx, k1, k2, k3, d1, d2, d3, l1, l2, l3, f1, f2, hy⟩
theorem arg_byte {n : Nat} {ds : List D} (h : OkD Tryz.τ n 5 ds) : ∃ c : UInt8, argOf Tryz.τ 5 ds = .v (.int .u8 (c.toNat : Int)) ∧ True := by
 obtain ⟨x, rfl⟩ := ok_byte h
 exact ⟨x, rfl, trivial⟩
theorem arg_uint {n : Nat} {ds : List D} (h : OkD Tryz.τ n 77 ds) : ∃ x : Int, argOf Tryz.τ 77 ds = .v (.int .u64 x) ∧ 0 ≤ x ∧ x < 18446744073709551616 := by
 cases n with
 | zero => exact h.elim
 | succ n =>
  simp only [OkD, Tryz.τ77] at h
  obtain ⟨x, rfl, h1, h2⟩ := h
  have h1 : (0 : Int) ≤ x := h1
  have h2 : x ≤ 18446744073709551615 := h2
  exact ⟨x, rfl, h1, by omega⟩
theorem arg_fact {n : Nat} {ds : List D} (h : OkD Tryz.τ n 67 ds) : ∃ f, argOf Tryz.τ 67 ds = fD f ∧ fOk f := by
 obtain ⟨f, rfl, h1⟩ := fact_of h
 exact ⟨f, rfl, h1⟩
def zeroF : Value := .agg #[.int .i64 0, .int .i64 0, .int .i64 0, .int .i64 0, .int .i64 0, .int .i64 0, .int .i64 0, .int .i64 0, .int .i64 0, .int .i64 0, .int .i64 0, .int .i64 0, .int .i64 0, .int .i64 0, .int .i64 0, .int .i64 0, .int .i64 0, .int .i64 0, .int .i64 0, .int .i64 0, .int .i64 0, .int .i64 0, .int .i64 0, .int .i64 0, .int .i64 0, .int .i64 0, .int .i64 0, .int .i64 0, .int .i64 0, .int .i64 0, .int .i64 0, .int .i64 0, .int .i64 0, .int .i64 0, .int .i64 0, .int .i64 0, .int .i64 0, .int .i64 0, .int .i64 0, .int .i64 0, .int .i64 0, .int .i64 0, .int .i64 0, .int .i64 0, .int .i64 0, .int .i64 0, .int .i64 0, .int .i64 0, .int .i64 0, .int .i64 0, .int .i64 0, .int .i64 0, .int .i64 0, .int .i64 0, .bool false, .int .i64 0, .int .i64 0]
def zeroR : Value := .agg #[.int .i64 0, .slice none 0 0, .int .i64 0, .int .i64 0, .slice none 0 0, .slice none 0 0, .int .i64 0, .bool false, .int .i64 0, .slice none 0 0, .int .i64 0, .slice none 0 0, .int .i64 0]
def Tryz.LP : List TypeId := [3, 5, 236, 249, 307, 329, 330]
theorem Tryz.pok : pOk Tryz.τ Tryz.LP = true := by decide
def laidL : List (String × DataW Unit) := [("stopwatch/digest.start", Rows.laid_stopwatch_digest_start), ("stopwatch/digest.permutations", Rows.laid_stopwatch_digest_permutations), ("stopwatch/facts.timeS", Rows.laid_stopwatch_facts_timeS), ("stopwatch/facts.lengthS", Rows.laid_stopwatch_facts_lengthS), ("stopwatch/facts.bibS", Rows.laid_stopwatch_facts_bibS), ("stopwatch/facts.matS", Rows.laid_stopwatch_facts_matS), ("stopwatch/facts.epochS", Rows.laid_stopwatch_facts_epochS), ("stopwatch/facts.chipS", Rows.laid_stopwatch_facts_chipS), ("stopwatch/facts.positionS", Rows.laid_stopwatch_facts_positionS), ("stopwatch/facts.caseS", Rows.laid_stopwatch_facts_caseS), ("stopwatch/facts.crewS", Rows.laid_stopwatch_facts_crewS), ("stopwatch/facts.numberS", Rows.laid_stopwatch_facts_numberS), ("stopwatch/facts.bitS", Rows.laid_stopwatch_facts_bitS)]
theorem laidL_ok : laidOkB Tryz.prog Tryz.LP laidL = true := by kernel_rfl
theorem laidL_plain : (laidL.all fun x => x.2.handleName?.isNone) = true := by kernel_rfl
theorem door_met (os : Os) (args : Array Value) : laidMetH Tryz.prog laidL ((World.doorLaid Tryz.prog (400) os).forCall (fun _ _ => 0) ⟨#[], args, []⟩).memory :=
 laidMetH_of_parts3 (fuel := 8) (laidMet_of_run' 8 (by kernel_rfl) (by kernel_rfl)) (by kernel_rfl) (by kernel_rfl)
theorem laid_at (g : Nat) (ds : List D) (h : Glob.laid g = some ds) : laidAt Tryz.prog laidL g = some ds := by
 dsimp only [Glob.laid, instGlob] at h
 split at h <;> cases h <;> kernel_rfl
end Go.Proofs.YtfgcgagcpnbgmaaGreatDoor
