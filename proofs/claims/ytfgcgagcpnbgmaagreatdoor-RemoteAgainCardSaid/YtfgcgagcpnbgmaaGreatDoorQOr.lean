/-
  Joined texts.
-/
import Derived.Test.YtfgcgagcpnbgmaaGreatDoorQOi
import Derived.Test.YtfgcgagcpnbgmaaGreatDoorQOb
import Derived.Test.YtfgcgagcpnbgmaaGreatDoorQJz
set_option maxRecDepth 10000
set_option maxHeartbeats 4000000
set_option linter.unusedVariables false
set_option linter.unusedSimpArgs false
set_option linter.unusedSectionVars false
namespace Go.Proofs.YtfgcgagcpnbgmaaGreatDoor
open Go.Xe Go.RowKit
theorem rmD_mk (crew : Int) (seed : By) (m : Int) (s : List By) (left sent : Int) : rmD (mkR crew seed m s left sent) = .agg [.v (.int .i64 crew), slB seed, .v (.int .i64 m), .v (.int .i64 (recs s).length), slLB s, .sl 2 [] 0 false, .v (.int .i64 left), .v (.bool false), .v (.int .i64 s.length), slLB (recs s), .v (.int .i64 (recs s).length), .sl 61 (sgC (onL seed m (recs s))) (recs s).length false, .v (.int .i64 sent)] := by
 simp only [rmD, rmC, mkR, sgD, onL_len]; rfl
def stR (crew : Int) (seed : By) (m : Int) (s : List By) (X : List By) (sent : Int) : Rm := ⟨crew, seed, m, (recs s).length, ⟨X, [], 0, true⟩, s.length, recs s, (recs s).length, onL seed m (recs s), sent⟩
theorem rmD_st (crew : Int) (seed : By) (m : Int) (s X : List By) (sent : Int) : rmD (stR crew seed m s X sent) = .agg [.v (.int .i64 crew), slB seed, .v (.int .i64 m), .v (.int .i64 (recs s).length), slLB X, .sl 2 [] 0 false, .v (.int .i64 0), .v (.bool true), .v (.int .i64 s.length), slLB (recs s), .v (.int .i64 (recs s).length), .sl 61 (sgC (onL seed m (recs s))) (recs s).length false, .v (.int .i64 sent)] := by
 simp only [rmD, rmC, stR, sgD, onL_len]; rfl
theorem resP_st {crew : Int} {seed : By} {m : Int} {s X : List By} {sent : Int} (ho : okR crew seed m X (-1) 0) (hr : recs X = recs s) : resP (stR crew seed m s X sent) = (mkR crew seed m X (-1) 0, 0) := by
 have hk := keyV_iff.1 ho.key
 have k0 : keyV seed m 0 = true := keyV_iff.2 ⟨hk.1, hk.2.1, hk.2.2.1, hk.2.2.2.1, Int.le_refl _, by omega⟩
 have hb : dkB ⟨X, [], -1, false⟩ = true := dkB_iff.2 ⟨⟨ho.n1, ho.n2, Nat.zero_le _, by simp, by simp⟩, (fun _ h => by cases h), ho.h128⟩
 unfold resP
 exact (if_pos ⟨ho.c0, ho.c1⟩).trans ((if_pos k0).trans ((if_pos hb).trans (if_pos ho.on)))
theorem rec_fact (f : Nat → Int) (c : Int) (n : Nat) : fup (fup f 0 c) 1 ((n : Int) + 1) = ownF c n f := rfl
theorem rmRecV_ok {crew : Int} {seed : By} {m : Int} {s : List By} {left sent : Int} (ho : okR crew seed m s left sent) (hsd : seed.length ≤ 1000) (h15 : Fn0 Tryz.prog 15 [rmD (mkR crew seed m s left sent)] (.v (.int .i64 0)))
  (f : Nat → Int) (hf : fOk f) : Fn0 Tryz.prog 17 [rmD (mkR crew seed m s left sent), fD f] (rmT (recV crew seed m s left sent (ownF crew (recs s).length f))) := by
 have hus := recs_used ho.h128
 have hsm := recs_small ho.h128 ho.n2
 have hn1 := ho.n1
 have hn2 := ho.n2
 have hkk := keyV_iff.1 ho.key
 have hg : fOk (ownF crew (recs s).length f) := ownF_ok hf (by have := ho.c0; have := ho.c1; simp [isI]; omega) (by omega)
 have g1 := ownF_1 crew (recs s).length f
 have hrf := rec_fact f crew (recs s).length
 have lG := onL_len seed m (recs s)
 have eR : IntKind.i64.wrap (((recs s).length : Int) + 1) = ((recs s).length : Int) + 1 := IntWalk.i64_in _ (by omega)
 have hmk : rmD (mkR crew seed m s left sent) = .agg [.v (.int .i64 crew), slB seed, .v (.int .i64 m), .v (.int .i64 (recs s).length), slLB s, .sl 2 [] 0 false, .v (.int .i64 left), .v (.bool false), .v (.int .i64 s.length), slLB (recs s), .v (.int .i64 (recs s).length), .sl 61 (sgC (onL seed m (recs s))) (recs s).length false, .v (.int .i64 sent)] := by
  simp only [rmD, rmC, mkR, sgD, lG]; rfl
 rw [hmk] at h15 ⊢
 have h54 := crwSign_ok seed hsd m (recs s).length (ownF crew (recs s).length f) hg
 have h55 := encode_ok (ownF crew (recs s).length f) hg
 have hbl := encF_len hg
 generalize ownF crew (recs s).length f = g at *
 have hl57 := fcs_len57 f
 have hl57g := fcs_len57 g
 refine Fun.of_wp (pn := noPn) Tryz.tab Tryz.func17 rfl fun β0 => ?_
 simp only [Tryz.f17]
 repeat(first|apply wG|(apply wR;simp -dsimp [fD, slB])|refine aI ?_)
 refine vcStop.call0 Tryz.body15 h15 rfl rfl (by simp [slB]) ?_
 simp -dsimp
 repeat(first|apply wG|(apply wR;simp -dsimp)|refine aI ?_)
 refine cF (by simp) ?_
 refine WP.skip ?_
 simp -dsimp
 repeat(first|apply wG|(apply wR;simp -dsimp [eR, hrf])|refine aI ?_)
 by_cases hok : (numF g).2 = true ∧ ((recs s).length : Int) < m
 ·obtain ⟨hn, hm⟩ := hok
  have hsr : sgnR seed m (recs s).length g = (sgc (sgQ seed m g), 0) := by
   rw [sgnR, if_pos hn, if_pos ⟨ho.key, by omega⟩]; rfl
  rw [hsr] at h54
  simp only at h54
  have hl61 := sgQ_len seed m g
  have hso : sgOk (sgQ seed m g) := ⟨hg, rfl, fun d hd => sigC_one hd⟩
  have h1o := sgc_oneD hso
  rw [encD, encR, if_pos hn] at h55
  simp only at h55
  have lgk : lgOk s.length (recs s) (recs s).length := ⟨hn1, hn2, Nat.le_refl _, hus.1, fun b hb => by have := hsm b hb; omega, by omega⟩
  have h56 := append_ok4 lgk (encF g) (by omega)
  have hrec : recV crew seed m s left sent g = (if usd (recs s) + secs (encF g).length ≤ s.length then
    if gnr s < 4294967296 then
     if 0 ≤ left ∧ left < secs (encF g).length then (mkR crew seed m (stopS s (wrR s (encF g)) left.toNat) (-1) 0, 380)
     else (mkR crew seed m (perf s (wrI (wrR s (encF g)))) (leftN left (secs (encF g).length)) sent, 0)
    else (zeR, 390) else (zeR, 2)) := by rw [recV, if_pos hn, if_pos hm]
  rw [hrec]
  refine vcStop.call0 Tryz.body54 h54 rfl rfl (by simp [keyD, fD, slB]) ?_
  simp -dsimp
  repeat(first|apply wG|(apply wR;simp -dsimp [setL_whole, hl61])|refine aI ?_)
  refine cF (by simp) ?_
  refine WP.skip ?_
  simp -dsimp
  repeat(first|apply wG|(apply wR;simp -dsimp)|refine aI ?_)
  refine vcStop.call0 Tryz.body55 h55 rfl rfl (by simp [fD]) ?_
  simp -dsimp
  repeat(first|apply wG|(apply wR;simp -dsimp)|refine aI ?_)
  refine vcStop.call0 Tryz.body56 h56 rfl rfl (by simp [logD, lgC]) ?_
  by_cases hu : usd (recs s) + secs (encF g).length ≤ s.length
  ·rw [if_pos hu, if_pos hu]
   have h57 := jSync_ok s ho.h128 hn1 hn2 left ho.l1 ho.l2 (encF g) (by omega) hu
   unfold synJ at h57
   simp -dsimp [logD, lgC]
   repeat(first|apply wG|(apply wR;simp -dsimp [logD, lgC])|refine aI ?_)
   refine cF (by simp) ?_
   refine WP.skip ?_
   simp -dsimp
   repeat(first|apply wG|(apply wR;simp -dsimp)|refine aI ?_)
   refine vcStop.call0 Tryz.body57 h57 rfl rfl (by simp [logD, lgC, dkD, dkC, wrC]) ?_
   by_cases hgn : gnr s < 4294967296
   ·rw [if_pos hgn, if_pos hgn]
    by_cases hst : 0 ≤ left ∧ left < secs (encF g).length
    ·rw [if_pos hst, if_pos hst]
     obtain ⟨ho2, hr2⟩ := stop_okR (k := left.toNat) (g := g) ho hu hgn (by omega)
     have hX : (stopS s (wrR s (encF g)) left.toNat).length ≤ 4096 := ho2.n2
     have hfo := onL_ok (seed := seed) ho.on hkk.2.2.2.1 (fun b hb => by have := hsm b hb; omega)
     have hst := resP_st (s := s) (sent := sent) ho2 hr2
     generalize stopS s (wrR s (encF g)) left.toNat = X at *
     have h23 := rmRes_ok (stR crew seed m s X sent) ⟨by have := ho.c0; have := ho.c1; simp [isI, stR]; omega, by simp [isI, stR]; omega, by simp [isI, stR]; omega, ⟨by simp only [stR]; omega, Nat.zero_le _, by simp [isI, stR]⟩, hsd, by simp only [stR]; omega, by simp only [stR, lG]; omega, hfo⟩
     rw [hst, rmD_st, rmT] at h23
     simp only [rmD_mk] at h23
     simp -dsimp [logD, lgC, dkD, dkC]
     repeat(first|apply wG|(apply wR;simp -dsimp [logD, lgC, dkD, dkC])|refine aI ?_)
     refine cF (by simp) ?_
     repeat(first|apply wG|(apply wR;simp -dsimp)|refine aI ?_)
     refine cT (by simp) ?_
     repeat(first|apply wG|(apply wR;simp -dsimp)|refine aI ?_)
     refine vcStop.call0 Tryz.body23 h23 rfl rfl (by simp [slB, wrC]) ?_
     simp -dsimp
     repeat(first|apply wG|(apply wR;simp -dsimp)|refine aI ?_)
     refine WP.ret (finQ.retE ?_)
     simp -dsimp [rmT, rmD_mk]
    ·rw [if_neg hst, if_neg hst]
     obtain ⟨ho2, hr2⟩ := rec_okR ho hg hn (by rw [← hrf]; simp [fup]) g1 hm hu hgn hst
     have hPl := perf_len s (wrI (wrR s (encF g)))
     have hcl := cloneG_ok (onL seed m (recs s)) (by omega) (fun p hp => (onL_ok (seed := seed) ho.on hkk.2.2.2.1 (fun b hb => by have := hsm b hb; omega) p hp).1)
     have hcp := clipG_ok (sgC (onL seed m (recs s))) (recs s).length false
     have lC := onL_C_len seed m (recs s)
     have hsC : sgC (onL seed m (recs s ++ [encF g])) = sgC (onL seed m (recs s)) ++ sgc (sgQ seed m g) := by
      rw [onL, List.map_append, sgC_append]
      simp [onL, sgC, sgc, dec_of_enc hg hn]
     have hrm := rmD_mk crew seed m (perf s (wrI (wrR s (encF g)))) (leftN left (secs (encF g).length)) sent
     rw [hr2, hPl] at hrm
     have h61 := sgc_tm hso
     have h1a := sgc_one hso
     rw [lG] at hcl
     rw [List.take_of_length_le (by rw [lC]; exact Nat.le_refl _)] at hcp
     have eu : IntKind.i64.wrap (((recs s).length : Int) + 1) = ((recs s).length : Int) + 1 := eR
     generalize perf s (wrI (wrR s (encF g))) = P at *
     simp -dsimp [logD, lgC, dkD, dkC]
     repeat(first|apply wG|(apply wR;simp -dsimp [logD, lgC, dkD, dkC])|refine aI ?_)
     refine cT (by simp) ?_
     repeat(first|apply wG|(apply wR;simp -dsimp)|refine aI ?_)
     refine vcStop.call0 Tryz.body59 hcl rfl rfl (by simp) ?_
     simp -dsimp
     repeat refine aI ?_
     refine vcStop.call0 Tryz.body58 hcp rfl rfl (by simp) ?_
     simp -dsimp [h61, hl61, lC]
     refine And.intro h1o ?_
     refine And.intro (by omega) ?_
     refine And.intro (by first | rfl | decide) ?_
     repeat(first|apply wG|(apply wR;simp -dsimp [h61, hl61, lC, eu])|refine aI ?_)
     refine WP.ret (finQ.retWE (Wk.freeze (k := 73) (T := 82) (sz := 61) (n := (recs s).length + 1) (ds := sgC (onL seed m (recs s ++ [encF g]))) (by simp [hsC])) ?_)
     simp -dsimp [rmT, hrm, slB, wrC]
   ·rw [if_neg hgn, if_neg hgn]
    simp -dsimp [logD, lgC, dkD, dkC]
    repeat(first|apply wG|(apply wR;simp -dsimp [logD, lgC, dkD, dkC])|refine aI ?_)
    refine cF (by simp) ?_
    repeat(first|apply wG|(apply wR;simp -dsimp)|refine aI ?_)
    refine cF (by simp) ?_
    refine WP.skip ?_
    simp -dsimp
    repeat(first|apply wG|(apply wR;simp -dsimp)|refine aI ?_)
    refine WP.ret (finQ.retE ?_)
    simp -dsimp [rmT, rmD_ze]
  ·rw [if_neg hu, if_neg hu]
   simp -dsimp [logD, lgC]
   repeat(first|apply wG|(apply wR;simp -dsimp [logD, lgC])|refine aI ?_)
   refine cT (by simp) ?_
   repeat(first|apply wG|(apply wR;simp -dsimp)|refine aI ?_)
   refine WP.ret (finQ.retE ?_)
   simp -dsimp [rmT, rmD_ze]
 ·have hsr : (sgnR seed m (recs s).length g).1 = fcs f0 0 57 ++ zsC ∧ (sgnR seed m (recs s).length g).2 ≠ 0 ∧ recV crew seed m s left sent g = (zeR, (sgnR seed m (recs s).length g).2) := by
   unfold sgnR recV
   by_cases hn : (numF g).2 = true
   ·rw [if_pos hn, if_neg (by rintro ⟨_, h⟩; exact hok ⟨hn, by omega⟩), if_pos hn, if_neg (fun h => hok ⟨hn, h⟩)]
    exact ⟨rfl, by decide, rfl⟩
   ·rw [if_neg hn, if_neg hn]
    exact ⟨rfl, by decide, rfl⟩
  obtain ⟨hs1, hs2, hs3⟩ := hsr
  rw [hs3]
  rw [hs1] at h54
  have hzo : sgOk (f0, zsC) := ⟨f0_ok, rfl, by decide⟩
  have hz1 := sgc_oneD hzo
  have hz61 := sgc_len hzo
  simp only [sgc] at hz1 hz61
  generalize fcs f0 0 57 ++ zsC = Z at *
  generalize (sgnR seed m (recs s).length g).2 = z at *
  refine vcStop.call0 Tryz.body54 h54 rfl rfl (by simp [keyD, fD, slB]) ?_
  simp -dsimp
  repeat(first|apply wG|(apply wR;simp -dsimp [setL_whole])|refine aI ?_)
  refine cT (by simp [hs2]) ?_
  repeat(first|apply wG|(apply wR;simp -dsimp)|refine aI ?_)
  refine WP.ret (finQ.retE ?_)
  simp -dsimp [rmT, rmD_ze]
theorem rmRec_ok (r : Rm) (h : rmOk r) (f : Nat → Int) (hf : fOk f) : Fn0 Tryz.prog 17 [rmD r, fD f] (rmT (recP r f)) := by
 have h15 := rmCheck_ok r h
 unfold recP
 cases hv : rmB r with
 | false =>
  have hck : ckR r = 440 := by rw [ckR, hv]; rfl
  rw [hck] at h15
  rw [if_neg (by decide)]
  refine Fun.of_wp (pn := noPn) Tryz.tab Tryz.func17 rfl fun β0 => ?_
  simp only [Tryz.f17]
  repeat(first|apply wG|(apply wR;simp -dsimp [rmD, rmC, fD])|refine aI ?_)
  refine vcStop.call0 Tryz.body15 h15 rfl rfl (by simp [rmD, rmC]) ?_
  simp -dsimp
  repeat(first|apply wG|(apply wR;simp -dsimp)|refine aI ?_)
  refine cT (by simp) ?_
  repeat(first|apply wG|(apply wR;simp -dsimp)|refine aI ?_)
  refine WP.ret (finQ.retE ?_)
  simp -dsimp [rmT, rmD_ze]
 | true =>
  have hck : ckR r = 0 := by rw [ckR, hv]; rfl
  rw [hck] at h15
  rw [if_pos rfl]
  have hd0 : dkB r.dk = true := by
   have := hv
   simp only [rmB, Bool.and_eq_true] at this
   exact this.2.2.1.1
  have hdd := dkB_iff.1 hd0
  have hsm := recs_small hdd.2.2 hdd.1.2.1
  obtain ⟨ho, hr⟩ := valid_mk (fun p hp => ⟨(h.fo p hp).1.1, (h.fo p hp).2⟩) (fun b hb => by have := hsm b hb; omega) hv
  have hres := rmRecV_ok ho h.sd (by rw [← hr]; exact h15) f hf
  rw [← hr] at hres
  exact hres
end Go.Proofs.YtfgcgagcpnbgmaaGreatDoor
set_option maxRecDepth 10000
set_option linter.unusedVariables false
set_option linter.unusedSimpArgs false
set_option linter.unusedSectionVars false
namespace Go.Proofs.YtfgcgagcpnbgmaaGreatDoor
open Go.Xe Go.RowKit
def batP (r : Rm) : List Sg × Int := if rmB r = true then (r.fs.drop r.sent.toNat, 0) else ([], 440)
def cfmP (r : Rm) (n : Int) : Rm × Int := if rmB r = true then if r.sent ≤ n ∧ n ≤ r.fs.length then ({ r with sent := n }, 0) else (zeR, 440) else (zeR, 440)
theorem rmB_sent {r : Rm} (h : rmB r = true) : 0 ≤ r.sent ∧ r.sent ≤ r.fs.length := by
 simp only [rmB, Bool.and_eq_true, decide_eq_true_eq] at h
 exact ⟨h.1.2.2.2.1, h.1.2.2.2.2⟩
set_option maxHeartbeats 2000000 in
theorem rmBat_ok (r : Rm) (h : rmOk r) (hn : r.fs.length ≤ 1000000) : Fn0 Tryz.prog 19 [rmD r] (.tup [sgD (batP r).1 false, .v (.int .i64 (batP r).2)]) := by
 have h15 := rmCheck_ok r h
 unfold batP
 unfold ckR at h15
 cases hv : rmB r with
 | true =>
  rw [hv, if_pos rfl] at h15
  rw [if_pos rfl]
  obtain ⟨s0, s1⟩ := rmB_sent hv
  obtain ⟨k, hk⟩ : ∃ k : Nat, r.sent = k := ⟨r.sent.toNat, by omega⟩
  rw [hk, Int.toNat_natCast]
  have hkl : k ≤ r.fs.length := by omega
  have hd := (sgC_take (fun q hq => (h.fo q hq).1) hkl).2
  have lC := sgC_len (l := r.fs) fun q hq => (h.fo q hq).1
  have hcl := cloneG_ok (r.fs.drop k) (by rw [List.length_drop]; omega) (fun p hp => (h.fo p (List.mem_of_mem_drop hp)).1)
  rw [List.length_drop] at hcl
  have lD := sgC_len (l := r.fs.drop k) fun q hq => (h.fo q (List.mem_of_mem_drop hq)).1
  rw [List.length_drop] at lD
  have ht : List.take ((r.fs.length - k) * 61) (sgC (r.fs.drop k)) = sgC (r.fs.drop k) := List.take_of_length_le (by omega)
  refine Fun.of_wp (pn := noPn) Tryz.tab Tryz.func19 rfl fun β0 => ?_
  simp only [Tryz.f19]
  repeat(first|apply wG|(apply wR;simp -dsimp [rmD, rmC, hk])|refine aI ?_)
  refine vcStop.call0 Tryz.body15 h15 rfl rfl (by simp [rmD, rmC, hk]) ?_
  simp -dsimp
  repeat(first|apply wG|(apply wR;simp -dsimp)|refine aI ?_)
  refine cF (by simp) ?_
  refine WP.skip ?_
  simp -dsimp
  repeat(first|apply wG|(apply wR;simp -dsimp [hd, ht, hkl])|refine aI ?_)
  refine vcStop.call0 Tryz.body59 hcl rfl rfl (by simp [hd, ht]) ?_
  simp -dsimp
  repeat(first|apply wG|(apply wR;simp -dsimp)|refine aI ?_)
  refine WP.ret (finQ.retE ?_)
  simp -dsimp
 | false =>
  rw [hv, if_neg (by decide)] at h15
  rw [if_neg (by decide)]
  refine Fun.of_wp (pn := noPn) Tryz.tab Tryz.func19 rfl fun β0 => ?_
  simp only [Tryz.f19]
  repeat(first|apply wG|(apply wR;simp -dsimp [rmD, rmC])|refine aI ?_)
  refine vcStop.call0 Tryz.body15 h15 rfl rfl (by simp [rmD, rmC]) ?_
  simp -dsimp
  repeat(first|apply wG|(apply wR;simp -dsimp)|refine aI ?_)
  refine cT (by simp) ?_
  repeat(first|apply wG|(apply wR;simp -dsimp)|refine aI ?_)
  refine WP.ret (finQ.retE ?_)
  simp -dsimp [sgC]
set_option maxHeartbeats 2000000 in
theorem rmCfm_ok (r : Rm) (h : rmOk r) (n : Int) : Fn0 Tryz.prog 21 [rmD r, .v (.int .i64 n)] (rmT (cfmP r n)) := by
 have h15 := rmCheck_ok r h
 unfold cfmP
 unfold ckR at h15
 cases hv : rmB r with
 | true =>
  rw [hv, if_pos rfl] at h15
  rw [if_pos rfl]
  refine Fun.of_wp (pn := noPn) Tryz.tab Tryz.func21 rfl fun β0 => ?_
  simp only [Tryz.f21]
  repeat(first|apply wG|(apply wR;simp -dsimp [rmD, rmC])|refine aI ?_)
  refine vcStop.call0 Tryz.body15 h15 rfl rfl (by simp [rmD, rmC]) ?_
  simp -dsimp
  repeat(first|apply wG|(apply wR;simp -dsimp)|refine aI ?_)
  refine cF (by simp) ?_
  refine WP.skip ?_
  simp -dsimp
  repeat(first|apply wG|(apply wR;simp -dsimp)|refine aI ?_)
  by_cases hc : r.sent ≤ n ∧ n ≤ r.fs.length
  ·rw [if_pos hc]
   refine cF (by simp; omega) ?_
   refine WP.skip ?_
   simp -dsimp
   repeat(first|apply wG|(apply wR;simp -dsimp)|refine aI ?_)
   refine WP.ret (finQ.retE ?_)
   simp -dsimp [rmT, rmD, rmC]
  ·rw [if_neg hc]
   refine cT (by simp; omega) ?_
   repeat(first|apply wG|(apply wR;simp -dsimp)|refine aI ?_)
   refine WP.ret (finQ.retE ?_)
   simp -dsimp [rmT, rmD_ze]
 | false =>
  rw [hv, if_neg (by decide)] at h15
  rw [if_neg (by decide)]
  refine Fun.of_wp (pn := noPn) Tryz.tab Tryz.func21 rfl fun β0 => ?_
  simp only [Tryz.f21]
  repeat(first|apply wG|(apply wR;simp -dsimp [rmD, rmC])|refine aI ?_)
  refine vcStop.call0 Tryz.body15 h15 rfl rfl (by simp [rmD, rmC]) ?_
  simp -dsimp
  repeat(first|apply wG|(apply wR;simp -dsimp)|refine aI ?_)
  refine cT (by simp) ?_
  repeat(first|apply wG|(apply wR;simp -dsimp)|refine aI ?_)
  refine WP.ret (finQ.retE ?_)
  simp -dsimp [rmT, rmD_ze]
end Go.Proofs.YtfgcgagcpnbgmaaGreatDoor
set_option maxRecDepth 10000
set_option linter.unusedVariables false
set_option linter.unusedSimpArgs false
set_option linter.unusedSectionVars false
namespace Go.Proofs.YtfgcgagcpnbgmaaGreatDoor
open Go.Xe Go.RowKit
theorem sameKey_ok (seed : By) (m u : Int) : Fn0 Tryz.prog 44 [keyD seed m u, keyD seed m u] (.v (.bool true)) := by
 refine Fun.of_wp (pn := noPn) Tryz.tab Tryz.func44 rfl fun β0 => ?_
 simp only [Tryz.f44]
 repeat(first|apply wG|(apply wR;simp -dsimp [keyD, slB])|refine aI ?_)
 refine WP.ret (finQ.retE ?_)
 simp -dsimp
abbrev srS (l : List By) (i : Nat) : St := mkS 28 [(0, .d (slLB l)), (1, .d (slLB l)), (5, .d (.v (.int .i64 i)))] []
set_option maxHeartbeats 1000000 in
theorem sameRecs_ok (l : List By) (hl : l.length ≤ 1000000000000) : Fn0 Tryz.prog 67 [slLB l, slLB l] (.v (.bool true)) := by
 have la := lsB_len l
 refine Fun.of_wp (pn := noPn) Tryz.tab Tryz.func67 rfl fun β0 => ?_
 simp only [Tryz.f67]
 repeat(first|apply wG|(apply wR;simp -dsimp)|refine aI ?_)
 refine cF (by simp) ?_
 refine WP.skip ?_
 simp -dsimp
 repeat(first|apply wG|(apply wR;simp -dsimp)|refine aI ?_)
 refine WP.loopWk (fun q S => ∃ i : Nat, q = l.length - i ∧ i ≤ l.length ∧ S = srS l i) l.length (S0 := srS l 0) (Wk.lessE [] (by simp) (by simp)) ⟨0, rfl, by omega, rfl⟩ ?_
 rintro _ _ ⟨i, rfl, hi, rfl⟩
 simp -dsimp
 repeat(first|apply wG|(apply wR;simp -dsimp)|refine aI ?_)
 by_cases hin : i < l.length
 ·have e1 : IntKind.i64.wrap ((i : Int) + 1) = ((i + 1 : Nat) : Int) := by rw [IntWalk.i64_in _ (by omega)]; omega
  refine cT (by simp; omega) ?_
  refine WP.skip ?_
  simp -dsimp
  repeat(first|apply wG|(apply wR;simp -dsimp [lsB_getE, la, hin])|refine aI ?_)
  refine cF (by simp) ?_
  refine WP.skip ?_
  simp -dsimp
  repeat(first|apply wG|(apply wR;simp -dsimp)|refine aI ?_)
  refine loopW.next (srS l (i + 1)) (Wk.lessE [] (by simp [e1]) (by simp)) (l.length - (i + 1)) (by omega) ⟨i + 1, rfl, by omega, rfl⟩
 ·obtain rfl : i = l.length := by omega
  refine cF (by simp) ?_
  refine WP.exit ?_
  simp -dsimp
  repeat(first|apply wG|(apply wR;simp -dsimp)|refine aI ?_)
  refine WP.ret (finQ.retE ?_)
  simp -dsimp
theorem sameLog_ok (M : Int) (l : List By) (Y : Int) (hl : l.length ≤ 1000000000000) : Fn0 Tryz.prog 26 [logD M l Y, logD M l Y] (.v (.bool true)) := by
 have h67 := sameRecs_ok l hl
 refine Fun.of_wp (pn := noPn) Tryz.tab Tryz.func26 rfl fun β0 => ?_
 simp only [Tryz.f26]
 repeat(first|apply wG|(apply wR;simp -dsimp [logD, lgC])|refine aI ?_)
 refine vcStopG.call0 Tryz.body67 (fun _ => h67) rfl (fun _ => rfl) (fun _ => by simp) ?_
 simp -dsimp
 repeat(first|apply wG|(apply wR;simp -dsimp)|refine aI ?_)
 refine WP.ret (finQ.retE ?_)
 simp -dsimp
end Go.Proofs.YtfgcgagcpnbgmaaGreatDoor
set_option linter.unusedVariables false
set_option linter.unusedSimpArgs false
set_option linter.unusedSectionVars false
namespace Go.Proofs.YtfgcgagcpnbgmaaGreatDoor
open Go.Xe Go.RowKit
abbrev sdk1 (s : List By) (left : Int) (st : Bool) : Bxs := [(2, .cells 28 ((dkC ⟨s, [], left, st⟩).map .d)), (3, .cells 28 ((dkC ⟨s, [], left, st⟩).map .d))]
abbrev sdkS (s : List By) (left : Int) (st : Bool) (i : Nat) : St := mkS 94 [(2, .ptr 2 0), (3, .ptr 3 0), (5, .d (.v (.int .i64 i)))] (sdk1 s left st)
set_option maxRecDepth 10000 in
set_option maxHeartbeats 1000000 in
theorem sameDk_ok (s : List By) (left : Int) (st : Bool) (hl : s.length ≤ 1000000000000) : Fn0 Tryz.prog 45 [dkD ⟨s, [], left, st⟩, dkD ⟨s, [], left, st⟩] (.v (.bool true)) := by
 have la := lsB_len s
 refine Fun.of_wp (pn := noPn) Tryz.tab Tryz.func45 rfl fun β0 => ?_
 simp only [Tryz.f45]
 repeat(first|apply wG|(apply wR;simp -dsimp [dkD, dkC])|refine aI ?_)
 refine cF (by simp) ?_
 refine WP.skip ?_
 simp -dsimp
 repeat(first|apply wG|(apply wR;simp -dsimp)|refine aI ?_)
 refine WP.loopWk (fun q S => ∃ i : Nat, q = s.length - i ∧ i ≤ s.length ∧ S = sdkS s left st i) s.length (S0 := sdkS s left st 0) (Wk.lessE [] (by simp) (by simp [dkC])) ⟨0, rfl, by omega, rfl⟩ ?_
 rintro _ _ ⟨i, rfl, hi, rfl⟩
 simp -dsimp [dkC]
 repeat(first|apply wG|(apply wR;simp -dsimp [dkC])|refine aI ?_)
 by_cases hin : i < s.length
 ·have e1 : IntKind.i64.wrap ((i : Int) + 1) = ((i + 1 : Nat) : Int) := by rw [IntWalk.i64_in _ (by omega)]; omega
  refine cT (by simp; omega) ?_
  refine WP.skip ?_
  simp -dsimp
  repeat(first|apply wG|(apply wR;simp -dsimp [lsB_getE, la, hin, dkC])|refine aI ?_)
  refine cF (by simp) ?_
  refine WP.skip ?_
  simp -dsimp
  repeat(first|apply wG|(apply wR;simp -dsimp)|refine aI ?_)
  refine loopW.next (sdkS s left st (i + 1)) (Wk.lessE [] (by simp [e1]) (by simp [dkC])) (s.length - (i + 1)) (by omega) ⟨i + 1, rfl, by omega, rfl⟩
 ·obtain rfl : i = s.length := by omega
  refine cF (by simp) ?_
  refine WP.exit ?_
  simp -dsimp
  repeat(first|apply wG|(apply wR;simp -dsimp)|refine aI ?_)
  refine WP.loopWk (fun q S => S = mkS 94 [(2, .ptr 2 0), (3, .ptr 3 0), (6, .d (.v (.int .i64 0)))] (sdk1 s left st)) 0 (S0 := mkS 94 [(2, .ptr 2 0), (3, .ptr 3 0), (6, .d (.v (.int .i64 0)))] (sdk1 s left st)) (Wk.lessE [] (by simp) (by simp [dkC])) rfl ?_
  rintro _ _ rfl
  simp -dsimp [dkC]
  repeat(first|apply wG|(apply wR;simp -dsimp [dkC])|refine aI ?_)
  refine cF (by simp) ?_
  refine WP.exit ?_
  simp -dsimp
  repeat(first|apply wG|(apply wR;simp -dsimp)|refine aI ?_)
  refine WP.ret (finQ.retE ?_)
  simp -dsimp
end Go.Proofs.YtfgcgagcpnbgmaaGreatDoor
set_option linter.unusedVariables false
set_option linter.unusedSimpArgs false
set_option linter.unusedSectionVars false
namespace Go.Proofs.YtfgcgagcpnbgmaaGreatDoor
open Go.Xe Go.RowKit
abbrev ssS (l : List Sg) (i : Nat) : St := mkS 27 [(0, .d (sgD l false)), (1, .d (sgD l false)), (5, .d (.v (.int .i64 i)))] []
set_option maxRecDepth 10000 in
set_option maxHeartbeats 1000000 in
theorem sameSgs_ok (l : List Sg) (hl : l.length ≤ 1000000000000) (ho : ∀ p ∈ l, sgOk p ∧ sgT p) : Fn0 Tryz.prog 25 [sgD l false, sgD l false] (.v (.bool true)) := by
 have la := sgC_len (l := l) fun p h => (ho p h).1
 refine Fun.of_wp (pn := noPn) Tryz.tab Tryz.func25 rfl fun β0 => ?_
 simp only [Tryz.f25]
 repeat(first|apply wG|(apply wR;simp -dsimp)|refine aI ?_)
 refine cF (by simp) ?_
 refine WP.skip ?_
 simp -dsimp
 repeat(first|apply wG|(apply wR;simp -dsimp)|refine aI ?_)
 refine WP.loopWk (fun q S => ∃ i : Nat, q = l.length - i ∧ i ≤ l.length ∧ S = ssS l i) l.length (S0 := ssS l 0) (Wk.lessE [] (by simp) (by simp)) ⟨0, rfl, by omega, rfl⟩ ?_
 rintro _ _ ⟨i, rfl, hi, rfl⟩
 simp -dsimp
 repeat(first|apply wG|(apply wR;simp -dsimp)|refine aI ?_)
 by_cases hin : i < l.length
 ·have e1 : IntKind.i64.wrap ((i : Int) + 1) = ((i + 1 : Nat) : Int) := by rw [IntWalk.i64_in _ (by omega)]; omega
  obtain ⟨o1, t1⟩ := ho _ (List.getElem_mem hin)
  obtain ⟨r, k28, hr⟩ := sameSgU_ok l[i] l[i] o1 o1 t1 t1
  rw [hr rfl] at k28
  have aa := sgc_at hin fun p h => (ho p h).1
  generalize l[i] = x at *
  have tx := sgc_tm o1
  have lx := sgc_len o1
  have tt := sgc_t o1
  have ox := sgc_one o1
  refine cT (by simp; omega) ?_
  refine WP.skip ?_
  simp -dsimp
  repeat(first|apply wG|(apply wR;simp -dsimp [aa, la, hin, tx, lx, tt])|refine aI ?_)
  refine vcStop.call0L Tryz.body28 k28 rfl rfl (And.intro (by simp [sgV, tx, tt]) (And.intro (by simp [sgV, tx, tt]) trivial)) ?_
  simp -dsimp
  repeat refine aI ?_
  refine cF (by simp) ?_
  refine WP.skip ?_
  simp -dsimp
  repeat(first|apply wG|(apply wR;simp -dsimp)|refine aI ?_)
  refine loopW.next (ssS l (i + 1)) (Wk.lessE [] (by simp [e1]) (by simp)) (l.length - (i + 1)) (by omega) ⟨i + 1, rfl, by omega, rfl⟩
 ·obtain rfl : i = l.length := by omega
  refine cF (by simp) ?_
  refine WP.exit ?_
  simp -dsimp
  repeat(first|apply wG|(apply wR;simp -dsimp)|refine aI ?_)
  refine WP.ret (finQ.retE ?_)
  simp -dsimp
end Go.Proofs.YtfgcgagcpnbgmaaGreatDoor
set_option linter.unusedVariables false
set_option linter.unusedSimpArgs false
set_option linter.unusedSectionVars false
namespace Go.Proofs.YtfgcgagcpnbgmaaGreatDoor
open Go.Xe Go.RowKit
set_option maxRecDepth 10000 in
set_option maxHeartbeats 1000000 in
theorem sameRm_ok (r : Rm) (h : rmOk r) (hp : r.dk.p = []) : Fn0 Tryz.prog 14 [rmD r, rmD r] (.v (.bool true)) := by
 have h44 := sameKey_ok r.seed r.many r.used
 have h45 := sameDk_ok r.dk.s r.dk.left r.dk.st h.dk.ns
 have h26 := sameLog_ok r.lm r.lr r.ls h.lr
 have h25 := sameSgs_ok r.fs h.fl h.fo
 refine Fun.of_wp (pn := noPn) Tryz.tab Tryz.func14 rfl fun β0 => ?_
 simp only [Tryz.f14]
 repeat(first|apply wG|(apply wR;simp -dsimp [rmD, rmC, hp])|refine aI ?_)
 refine vcStopG.call0 Tryz.body44 (fun _ => h44) rfl (fun _ => rfl) (fun _ => by simp [keyD, slB]) ?_
 simp -dsimp
 repeat(first|apply wG|(apply wR;simp -dsimp)|refine aI ?_)
 refine vcStopG.call0 Tryz.body45 (fun _ => h45) rfl (fun _ => rfl) (fun _ => by simp [dkD, dkC]) ?_
 simp -dsimp
 repeat(first|apply wG|(apply wR;simp -dsimp)|refine aI ?_)
 refine vcStopG.call0 Tryz.body26 (fun _ => h26) rfl (fun _ => rfl) (fun _ => by simp [logD, lgC]) ?_
 simp -dsimp
 repeat(first|apply wG|(apply wR;simp -dsimp)|refine aI ?_)
 refine cF (by simp) ?_
 refine WP.skip ?_
 simp -dsimp
 repeat(first|apply wG|(apply wR;simp -dsimp)|refine aI ?_)
 refine vcStop.call0 Tryz.body25 h25 rfl rfl (by simp) ?_
 simp -dsimp
 repeat(first|apply wG|(apply wR;simp -dsimp)|refine aI ?_)
 refine WP.ret (finQ.retE ?_)
 simp -dsimp
end Go.Proofs.YtfgcgagcpnbgmaaGreatDoor
set_option linter.unusedVariables false
set_option linter.unusedSimpArgs false
set_option linter.unusedSectionVars false
namespace Go.Proofs.YtfgcgagcpnbgmaaGreatDoor
open Go.Xe Go.RowKit
theorem newRow_ok (m k : Int) : Fun Tryz.prog 12 [.d (.v (.int .i64 2)), .agg [.row 1000, .d (.v (.int .i64 m)), .d (.v (.int .i64 0))], .d (.v (.int .i64 k))] [(1000, .row 5 1 1 [.d (.v (.int .u8 1))])] (.d (rmT (newP 2 [1] m 0 k))) [] fun _ => False := by
 have h12 := rmNew_ok 2 [1] (by decide) m 0 k
 have h12' : Fun Tryz.prog 12 [.d (.v (.int .i64 2)), .agg [.d (slB [1]), .d (.v (.int .i64 m)), .d (.v (.int .i64 0))], .d (.v (.int .i64 k))] [] (.d (rmT (newP 2 [1] m 0 k))) [] fun _ => False :=
  Fun.args h12 (And.intro (.refl _) (And.intro (Leq.aggD [slB [1], .v (.int .i64 m), .v (.int .i64 0)]) (And.intro (.refl _) trivial)))
 exact Fun.ofRow 1000 (T := 5) (cs := bys [1]) h12' rfl rfl trivial
set_option maxRecDepth 10000 in
theorem start_ok (m k : Int) : Fn0 Tryz.prog 31 [.v (.int .i64 m), .v (.int .i64 k)] (rmT (newP 2 [1] m 0 k)) := by
 have h12 := rmNew_ok 2 [1] (by decide) m 0 k
 refine Fun.of_wp (pn := noPn) Tryz.tab Tryz.func31 rfl fun β0 => ?_
 simp only [Tryz.f31]
 repeat(first|apply wG|(apply wR;simp -dsimp)|refine aI ?_)
 refine vcStop.call Tryz.body12 (newRow_ok m k) (rl [(1000, 6)]) rfl rfl (by simp [BoxLeq]) (CallOk.of (by simp [BoxLeq]) rfl (by first | rfl | (simp [BoxLeq]; done)) (by simp [BoxLeq]) (by simp [BoxLeq])) (fun _ h => h.elim) (fun ⟨_, h⟩ => h.elim) (fun ⟨_, h⟩ => h.elim) (by simp [BoxLeq]) ?_
 simp -dsimp [rmT, rmD, rmC]
 repeat(first|apply wG|(apply wR;simp -dsimp)|refine aI ?_)
 refine WP.ret (finQ.retE ?_)
 simp -dsimp [rmT, rmD, rmC]
end Go.Proofs.YtfgcgagcpnbgmaaGreatDoor
