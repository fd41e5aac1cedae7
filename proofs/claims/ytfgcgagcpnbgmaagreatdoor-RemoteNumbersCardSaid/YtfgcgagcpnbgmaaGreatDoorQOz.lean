/-
  Remote crews: the facts of valid crews are numbered, and verify under their key. Walked.
-/
import Derived.Test.YtfgcgagcpnbgmaaGreatDoorQRl
import Derived.Test.YtfgcgagcpnbgmaaGreatDoorQNd
import Derived.Test.YtfgcgagcpnbgmaaGreatDoorQMa
set_option linter.unusedVariables false
set_option linter.unusedSimpArgs false
set_option linter.unusedSectionVars false
namespace Go.Proofs.YtfgcgagcpnbgmaaGreatDoor
open Go.Xe Go.RowKit
def reR (i : Nat) : List Crw := List.replicate i (z32, 1)
theorem reR_succ (i : Nat) : reR (i + 1) = reR i ++ [(z32, 1)] := by rw [reR, reR, List.replicate_succ']
theorem reR_ok (i : Nat) : ∀ c ∈ reR i, crOk c := fun c hc => by
 rw [(List.mem_replicate.1 hc).2]
 exact ⟨rfl, by unfold isI; decide⟩
theorem reR_len (i : Nat) : (reR i).length = i := List.length_replicate ..
def oneR (C : Nat) (d : Dg) (m : Int) : List Crw := reR C ++ [(d, m)]
theorem oneR_len (C : Nat) (d : Dg) (m : Int) : (oneR C d m).length = C + 1 := by rw [oneR, List.length_append, reR_len]; rfl
theorem oneR_ok {C : Nat} {d : Dg} {m : Int} (hd : d.length = 32) (hm : isI m) : ∀ c ∈ oneR C d m, crOk c := fun c hc => by
 rcases List.mem_append.1 hc with h | h
 ·exact reR_ok C c h
 ·rw [List.mem_singleton.1 h]; exact ⟨hd, hm⟩
theorem oneR_B {C : Nat} {d : Dg} {m : Int} (hC : C < 32) (h1 : 1 ≤ m) (h2 : m ≤ 4096) : crB (oneR C d m) = true := by
 rw [crB, oneR_len, oneR, List.any_append]
 have e1 : (reR C).any badC = false := by
  rw [List.any_eq_false]
  intro c hc
  rw [(List.mem_replicate.1 hc).2]
  decide
 have e2 : badC (d, m) = false := by
  simp [badC]
  omega
 rw [e1]
 simp [e2]
 omega
theorem oneR_at (C : Nat) (d : Dg) (m : Int) : (oneR C d m).getD C (z32, 0) = (d, m) := by
 rw [oneR, List.getD_eq_getElem?_getD, List.getElem?_append_right (by rw [reR_len]; omega), reR_len]; simp
theorem set33r (Z A : List AV) (hZ : Z.length = 33) (hA : A.length = 32) (x : AV) : (setL Z 0 A).set 32 x = A ++ [x] := by
 rw [setL_mid _ _ _ (by omega), hA]
 obtain ⟨w, e⟩ : ∃ w, Z.drop (0 + 32) = [w] := List.length_eq_one_iff.1 (by rw [List.length_drop]; omega)
 rw [e, List.take_zero, List.nil_append]
 simp [List.set_append, hA]
theorem sgc_g0 (p : Sg) (h : 0 < (sgc p).length) : (sgc p)[0] = .v (.int .i64 (p.1 0)) := rfl
theorem sgc_g1 (p : Sg) (h : 1 < (sgc p).length) : (sgc p)[1] = .v (.int .i64 (p.1 1)) := rfl
abbrev nuS (r : Rm) (d : Dg) (i : Nat) : St :=
 mkS 129 [(1, .ptr 1 0), (3, .ptr 3 0), (7, .row 500), (8, .d (.v (.int .i64 i)))] [(1, .cells 33 ((rmC r).map .d)), (3, .cells 87 ((bys d).map .d)), (500, .row 92 33 i ((crC (reR i)).map .d))]
abbrev nuT (r : Rm) (l : List Crw) (i : Nat) : St := mkS 129 [(1, .ptr 1 0), (7, .d (crwD l)), (9, .d (.v (.int .i64 i)))] [(1, .cells 33 ((rmC r).map .d))]
set_option maxRecDepth 10000 in
set_option maxHeartbeats 4000000 in
theorem law_numbers (r : Rm) (g : rmG r) : Fn0 Tryz.prog 8 [rmD r] (.v (.bool true)) := by
 have h10 := sane44_ok
 have ho : ∀ p ∈ r.fs, sgOk p ∧ sgT p := fun p hp => ⟨sgT_ok (g.fo p hp).1 (g.fo p hp).2, (g.fo p hp).2⟩
 have h36 := fewDk_ok r.dk g.ds.1 g.ds.2 (fun w hw => (g.dp.1 w hw).2) g.dp.2
 have h11 := fewRm_ok r h36 g.lr.1 g.lr.2 ho g.fl
 refine Fun.of_wp (pn := noPn) Tryz.tab Tryz.func8 rfl fun β0 => ?_
 simp only [Tryz.f8]
 repeat(first|apply wG|(apply wR;simp -dsimp [rmD, rmC])|refine aI ?_)
 refine vcStop.call0 Tryz.body10 h10 rfl rfl (by simp) ?_
 simp -dsimp
 repeat(first|apply wG|(apply wR;simp -dsimp)|refine aI ?_)
 refine cF (by simp) ?_
 refine WP.skip ?_
 simp -dsimp
 repeat(first|apply wG|(apply wR;simp -dsimp)|refine aI ?_)
 refine vcStop.call0 Tryz.body11 h11 rfl rfl (by simp [rmD, rmC]) ?_
 cases hfw : fewR r with
 | false =>
  simp -dsimp
  repeat(first|apply wG|(apply wR;simp -dsimp)|refine aI ?_)
  refine vcStopG.skip (.d (.v (.int .i64 0))) ?_
  simp -dsimp
  repeat(first|apply wG|(apply wR;simp -dsimp)|refine aI ?_)
  refine cT (by simp) ?_
  repeat(first|apply wG|(apply wR;simp -dsimp)|refine aI ?_)
  refine WP.ret (finQ.retE ?_)
  simp -dsimp
 | true =>
  obtain ⟨hk, h6⟩ := fewR_ok hfw ⟨g.c, g.m, g.u, g.dl⟩ ho
  have h15 := rmCheck_ok r hk
  simp -dsimp
  repeat(first|apply wG|(apply wR;simp -dsimp)|refine aI ?_)
  refine vcStopG.call0 Tryz.body15 (fun _ => h15) rfl (fun _ => rfl) (fun _ => by simp [rmD, rmC]) ?_
  simp -dsimp
  repeat(first|apply wG|(apply wR;simp -dsimp)|refine aI ?_)
  cases hv : rmB r with
  | false =>
   refine cT (by simp [ckR_no hv]) ?_
   repeat(first|apply wG|(apply wR;simp -dsimp)|refine aI ?_)
   refine WP.ret (finQ.retE ?_)
   simp -dsimp
  | true =>
   refine cF (by simp [ckR_yes hv]) ?_
   refine WP.skip ?_
   obtain ⟨okr, hmk⟩ := rm_mk g.fo hv
   have hkk := keyV_iff.1 okr.key
   have h128 := okr.h128
   have hus := recs_used okr.h128
   have hn2 := okr.n2
   have hsm := recs_small okr.h128 okr.n2
   have efs : r.fs = onL r.seed r.many (recs r.dk.s) := by rw [hmk]; rfl
   have eus : r.used = (recs r.dk.s).length := by rw [hmk]; rfl
   have lfs : r.fs.length = (recs r.dk.s).length := by rw [efs, onL_len]
   have h29 := public8_ok r.seed hk.sd r.many r.used
   rw [pblR, if_pos (by rw [eus]; exact okr.key)] at h29
   have hT : (treeB (pubsB r.seed r.many.toNat)).length = 32 := treeB_len _
   obtain ⟨d, hd⟩ : ∃ d, treeB (pubsB r.seed r.many.toNat) = d := ⟨_, rfl⟩
   rw [hd] at h29 hT
   have ld := bys_len d
   have d1 := bys_oneD d
   have h19 := rmBat_ok r hk (by omega)
   rw [batP, if_pos hv] at h19
   obtain ⟨s0, s1⟩ := rmB_sent hv
   obtain ⟨k, hks⟩ : ∃ k : Nat, r.sent = k := ⟨r.sent.toNat, by omega⟩
   rw [hks, Int.toNat_natCast] at h19
   have hso : ∀ q ∈ r.fs, sgOk q := fun q hq => (ho q hq).1
   have hdr := (sgC_take hso (i := k) (by omega)).2
   have h25 := sameSgs_ok (r.fs.drop k) (by rw [List.length_drop]; omega) (fun p hp => ho p (List.mem_of_mem_drop hp))
   have ldr : (r.fs.drop k).length = r.fs.length - k := List.length_drop ..
   have tdr : List.take ((r.fs.length - k) * 61) (sgC (r.fs.drop k)) = sgC (r.fs.drop k) := List.take_of_length_le (by rw [sgC_len fun q hq => hso q (List.mem_of_mem_drop hq), ldr]; exact Nat.le_refl _)
   have lC := sgC_len hso
   have c0 := okr.c0
   have c1 := okr.c1
   obtain ⟨C, hC⟩ : ∃ C : Nat, r.crew = C := ⟨r.crew.toNat, by omega⟩
   simp -dsimp
   repeat(first|apply wG|(apply wR;simp -dsimp)|refine aI ?_)
   refine vcStop.call0 Tryz.body29 h29 rfl rfl (by simp [keyD, slB]) ?_
   simp -dsimp [dD, setL_whole, ld, hT]
   refine And.intro (fun a h => bysD_one h) ?_
   repeat(first|apply wG|(apply wR;simp -dsimp [setL_whole, ld, hT])|refine aI ?_)
   refine vcStop.call0 Tryz.body19 h19 rfl rfl (by simp [rmD, rmC]) ?_
   have q1 : decide ((C : Int) < 0) = false := decide_eq_false (by omega)
   have q2 : decide ((32 : Int) ≤ (C : Int)) = false := decide_eq_false (by omega)
   have q3 : decide ((k : Int) < 0) = false := decide_eq_false (by omega)
   have q4 : decide ((r.fs.length : Int) < (k : Int)) = false := decide_eq_false (by omega)
   have q5 : decide (r.fs.length < k) = false := decide_eq_false (by omega)
   simp -dsimp
   repeat(first|apply wG|(apply wR;simp -dsimp [hks, hC, q1, q2, q3, q4, q5, hdr])|refine aI ?_)
   refine vcStopG.call0 Tryz.body25 (fun _ => h25) rfl (fun _ => rfl) (fun _ => by simp [hdr, ldr, tdr]) ?_
   simp -dsimp
   repeat(first|apply wG|(apply wR;simp -dsimp)|refine aI ?_)
   refine cF (by simp [q1, q2, q3, q4, q5]) ?_
   refine WP.skip ?_
   simp -dsimp
   repeat(first|apply wG|(apply wR;simp -dsimp)|refine aI ?_)
   refine WP.loopWk (fun q S => ∃ i : Nat, q = C + 1 - i ∧ i ≤ C + 1 ∧ S = nuS r d i) (C + 1) (S0 := nuS r d 0) (Wk.go [] 70 500 (by decide) (by simp) (by simp) (by simp [reR, crC, rmC, hC, hks])) ⟨0, rfl, by omega, rfl⟩ ?_
   rintro _ _ ⟨i, rfl, hi, rfl⟩
   simp -dsimp [rmC, hC]
   repeat(first|apply wG|(apply wR;simp -dsimp [rmC, hC])|refine aI ?_)
   by_cases hlt : i ≤ C
   ·refine cT (by simp; omega) ?_
    refine WP.skip ?_
    have e1 : IntKind.i64.wrap ((i : Int) + 1) = ((i + 1 : Nat) : Int) := by rw [IntWalk.i64_in _ (by omega)]; omega
    have e3 : (crC (reR (i + 1))).map AV.d = (crC (reR i)).map .d ++ [AV.d (.v (.int .u8 0)), AV.d (.v (.int .u8 0)), AV.d (.v (.int .u8 0)), AV.d (.v (.int .u8 0)), AV.d (.v (.int .u8 0)), AV.d (.v (.int .u8 0)), AV.d (.v (.int .u8 0)), AV.d (.v (.int .u8 0)), AV.d (.v (.int .u8 0)), AV.d (.v (.int .u8 0)), AV.d (.v (.int .u8 0)), AV.d (.v (.int .u8 0)), AV.d (.v (.int .u8 0)), AV.d (.v (.int .u8 0)), AV.d (.v (.int .u8 0)), AV.d (.v (.int .u8 0)), AV.d (.v (.int .u8 0)), AV.d (.v (.int .u8 0)), AV.d (.v (.int .u8 0)), AV.d (.v (.int .u8 0)), AV.d (.v (.int .u8 0)), AV.d (.v (.int .u8 0)), AV.d (.v (.int .u8 0)), AV.d (.v (.int .u8 0)), AV.d (.v (.int .u8 0)), AV.d (.v (.int .u8 0)), AV.d (.v (.int .u8 0)), AV.d (.v (.int .u8 0)), AV.d (.v (.int .u8 0)), AV.d (.v (.int .u8 0)), AV.d (.v (.int .u8 0)), AV.d (.v (.int .u8 0)), AV.d (.v (.int .i64 1))] := by
     rw [reR_succ, crC_append, List.map_append]
     rfl
    simp -dsimp
    repeat(first|apply wG|(apply wR;simp -dsimp)|refine aI ?_)
    refine loopW.next (nuS r d (i + 1)) (Wk.go [79] 80 500 (by decide) (by simp) (by simp [e1]) (by simp [e3, rmC, hC, hks])) (C + 1 - (i + 1)) (by omega) ⟨i + 1, rfl, by omega, rfl⟩
   ·refine cF (by simp; omega) ?_
    refine WP.exit ?_
    obtain rfl : i = C + 1 := by omega
    have td := bysA_take d hT
    have eCr : (bys d).map AV.d ++ [AV.d (.v (.int .i64 r.many))] = (crX (d, r.many)).map .d := by simp [crX]
    have oRM : crOk (d, r.many) := ⟨hT, hk.m⟩
    have lCr := crX_len oRM
    have lre := crC_len (reR_ok C)
    have lrC := reR_len C
    have eS : setL ((crC (reR (C + 1))).map AV.d) (C * 33) ((crX (d, r.many)).map .d) = (crC (oneR C d r.many)).map .d := by
     have h1 : (crX (z32, 1)).length = 33 := rfl
     rw [reR_succ, oneR, crC_append, crC_append, setL_mid _ _ _ (by simp [crC, lre, lrC, lCr, h1]), List.map_append, List.map_append, List.take_left' (by rw [List.length_map, lre, lrC]), List.drop_of_length_le (by simp [crC, lre, lrC, lCr, h1]), List.append_nil]
     simp [crC]
    have lOne := oneR_len C d r.many
    have oL := oneR_ok (C := C) hT hk.m
    have bL := oneR_B (C := C) (d := d) (m := r.many) (by omega) hkk.2.2.1 hkk.2.2.2.1
    simp -dsimp [rmC, hC]
    refine WP.seq ?_
    refine WP.region Tryz.tab ?_
    simp -dsimp [rmC, hC, td, set33r, setL_whole, bys_len, hT, eCr, lCr, setL_length, eS]
    refine And.intro (fun a h => bysD_one h) ?_
    refine And.intro (by omega) (And.intro ⟨by rw [crC_len (reR_ok (C + 1)), reR_len]; omega, fun a h => crX_one h⟩ ?_)
    refine WP.weak (Wk.freeze (k := 500) (T := 92) (sz := 33) (n := C + 1) (ds := crC (oneR C d r.many)) rfl) ?_
    simp -dsimp
    repeat(first|apply wG|(apply wR;simp -dsimp)|refine aI ?_)
    refine WP.loopWk (fun q S => ∃ i : Nat, q = r.fs.length - i ∧ i ≤ r.fs.length ∧ S = nuT r (oneR C d r.many) i) r.fs.length (S0 := nuT r (oneR C d r.many) 0) (Wk.lessE [3] (by simp [crwD, lOne]) (by simp [rmC, hC])) ⟨0, rfl, by omega, rfl⟩ ?_
    rintro _ _ ⟨i, rfl, hin, rfl⟩
    simp -dsimp [rmC, hC]
    repeat(first|apply wG|(apply wR;simp -dsimp [rmC, hC])|refine aI ?_)
    by_cases hlt2 : i < r.fs.length
    ·have e1 : IntKind.i64.wrap ((i : Int) + 1) = (i : Int) + 1 := IntWalk.i64_in _ (by omega)
     have hm : r.fs[i] ∈ r.fs := List.getElem_mem hlt2
     have w1 := crwVerifyS_ok (oneR C d r.many) oL (by omega) r.fs[i] (g.fo _ hm).1 (g.fo _ hm).2
     have hv0 : vfyS (oneR C d r.many) r.fs[i] = 0 := by
      refine on_vfy (crew := r.crew) (seed := r.seed) (m := r.many) (u := (recs r.dk.s).length) okr.on okr.key okr.c0 (fun b hb => by have := hsm b hb; omega) bL (by rw [lOne]; omega) ?_ (by rw [← efs]; exact hm)
      rw [hC, Int.toNat_natCast, oneR_at, hd]
     rw [hv0] at w1
     have hfa : r.fs[i].1 0 = r.crew ∧ r.fs[i].1 1 = (i : Int) + 1 := by
      have hon := onB_get okr.on (j := i) (by omega)
      rw [Nat.zero_add] at hon
      obtain ⟨_, _, f3, f4, _⟩ := onK_facts hon (by have := hsm _ (List.getElem_mem (show i < (recs r.dk.s).length by omega)); omega)
      have e : r.fs[i] = sgQ r.seed r.many (decF ((recs r.dk.s)[i]'(by omega))).1 := by
       simp only [efs]
       exact onL_get _ _ _ _
      rw [e]
      exact ⟨f3, f4⟩
     have aa := sgc_at hlt2 hso
     have lx := sgc_len (hso _ hm)
     have tx := sgc_t (hso _ hm)
     simp only [crwD, lOne] at w1
     generalize r.fs[i] = x at *
     refine cT (by simp; omega) ?_
     refine WP.skip ?_
     simp -dsimp [rmC, hC]
     obtain ⟨f0', f1'⟩ := hfa
     rw [hC] at f0'
     repeat(first|apply wG|(apply wR;simp -dsimp [rmC, hC, aa, lC, hlt2, lx, tx, e1, sgc_g0, sgc_g1, f0', f1'])|refine aI ?_)
     refine vcStopG.call0L Tryz.body30 (fun _ => w1) rfl (fun _ => rfl) (fun _ => And.intro (by simp [crwD, lOne]; try exact .refl _) (And.intro (by simp [sgV, tx]; try exact .refl _) trivial)) ?_
     simp -dsimp
     repeat refine aI ?_
     refine cF (by simp) ?_
     refine WP.skip ?_
     simp -dsimp
     repeat(first|apply wG|(apply wR;simp -dsimp)|refine aI ?_)
     refine loopW.next (nuT r (oneR C d r.many) (i + 1)) (Wk.lessE [] (by simp [e1]) (by simp [rmC, hC])) (r.fs.length - (i + 1)) (by omega) ⟨i + 1, rfl, by omega, rfl⟩
    ·obtain rfl : i = r.fs.length := by omega
     refine cF (by simp) ?_
     refine WP.exit ?_
     simp -dsimp
     repeat(first|apply wG|(apply wR;simp -dsimp)|refine aI ?_)
     refine WP.ret (finQ.retE ?_)
     simp -dsimp
end Go.Proofs.YtfgcgagcpnbgmaaGreatDoor
