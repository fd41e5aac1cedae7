/-
  Remote crews: changing, exchanging or leaving out a fact makes a crew invalid. Walked.
-/
import Derived.Test.YtfgcgagcpnbgmaaGreatDoorQRl
import Derived.Test.YtfgcgagcpnbgmaaGreatDoorQUg
import Derived.Test.YtfgcgagcpnbgmaaGreatDoorQNc
set_option linter.unusedVariables false
set_option linter.unusedSimpArgs false
set_option linter.unusedSectionVars false
namespace Go.Proofs.YtfgcgagcpnbgmaaGreatDoor
open Go.Xe Go.RowKit
theorem sgC_cut {x : List Sg} (h : ∀ q ∈ x, sgOk q) {i : Nat} (hi : i < x.length) : (sgC x).take (i * 61) = sgC (x.take i) ∧ (sgC x).drop (i * 61 + 57) = x[i].2 ++ sgC (x.drop (i + 1)) := by
 obtain ⟨t1, t2⟩ := sgC_take h (Nat.le_of_lt hi)
 refine ⟨t1, ?_⟩
 rw [← List.drop_drop, t2, List.drop_eq_getElem_cons hi]
 show List.drop 57 (sgc x[i] ++ sgC (x.drop (i + 1))) = _
 rw [sgc, List.append_assoc, List.drop_left' (fcs_len57 _)]
theorem sgC_setF {x : List Sg} (h : ∀ q ∈ x, sgOk q) {i : Nat} (hi : i < x.length) (f : Nat → Int) : setL ((sgC x).map AV.d) (i * 61) ((fcs f 0 57).map .d) = (sgC (x.set i (f, x[i].2))).map .d := by
 obtain ⟨t1, t2⟩ := sgC_cut h hi
 have l1 := sgC_len h
 have l2 := fcs_len57 f
 rw [setL_mid _ _ _ (by rw [List.length_map, List.length_map, l1, l2]; omega), List.length_map, l2, ← List.map_take, ← List.map_drop, t1, t2, List.set_eq_take_append_cons_drop, if_pos hi, sgC_append]
 show _ = List.map AV.d (sgC (x.take i) ++ (sgc (f, x[i].2) ++ sgC (x.drop (i + 1))))
 simp [sgc]
theorem sgT_set {x : List Sg} (h : ∀ p ∈ x, fOk p.1 ∧ sgT p) {i : Nat} {q : Sg} (hq : fOk q.1 ∧ sgT q) : ∀ p ∈ x.set i q, fOk p.1 ∧ sgT p := fun p hp => by
 rcases List.mem_or_eq_of_mem_set hp with hp | rfl
 ·exact h p hp
 ·exact hq
theorem rmOk_fs {r : Rm} (h : rmOk r) {l : List Sg} (hl : l.length ≤ 1000000000000) (ho : ∀ p ∈ l, fOk p.1 ∧ sgT p) : rmOk { r with fs := l } :=
 ⟨h.c, h.m, h.u, h.dk, h.sd, h.lr, hl, fun p hp => ⟨sgT_ok (ho p hp).1 (ho p hp).2, (ho p hp).2⟩⟩
theorem setS_ok {x : List Sg} (h : ∀ q ∈ x, sgOk q) {i : Nat} {q : Sg} (hq : sgOk q) : ∀ p ∈ x.set i q, sgOk p := fun p hp => by
 rcases List.mem_or_eq_of_mem_set hp with hp | rfl
 ·exact h p hp
 ·exact hq
set_option maxRecDepth 10000 in
set_option maxHeartbeats 4000000 in
theorem law_altered (r : Rm) (g : rmG r) (a : Int) (ha0 : 0 ≤ a) (ha1 : a < 18446744073709551616) (c : UInt8) (f : Nat → Int) (hf : fOk f) : Fn0 Tryz.prog 7 [rmD r, .v (.int .u64 a), .v (.int .u8 (c.toNat : Int)), fD f] (.v (.bool true)) := by
 have h10 := sane44_ok
 have ho : ∀ p ∈ r.fs, sgOk p ∧ sgT p := fun p hp => ⟨sgT_ok (g.fo p hp).1 (g.fo p hp).2, (g.fo p hp).2⟩
 have h36 := fewDk_ok r.dk g.ds.1 g.ds.2 (fun w hw => (g.dp.1 w hw).2) g.dp.2
 have h11 := fewRm_ok r h36 g.lr.1 g.lr.2 ho g.fl
 refine Fun.of_wp (pn := noPn) Tryz.tab Tryz.func7 rfl fun β0 => ?_
 simp only [Tryz.f7]
 repeat(first|apply wG|(apply wR;simp -dsimp [rmD, rmC, fD])|refine aI ?_)
 refine vcStop.call0 Tryz.body10 h10 rfl rfl (by simp) ?_
 simp -dsimp
 repeat(first|apply wG|(apply wR;simp -dsimp)|refine aI ?_)
 refine cF (by simp) ?_
 refine WP.skip ?_
 simp -dsimp
 repeat(first|apply wG|(apply wR;simp -dsimp)|refine aI ?_)
 refine vcStop.call0 Tryz.body11 h11 rfl rfl (by simp [rmD, rmC]) ?_
 cases hfw : fewR r with
 | false =>
  simp -dsimp
  repeat(first|apply wG|(apply wR;simp -dsimp)|refine aI ?_)
  refine vcStopG.skip (.d (.v (.int .i64 0))) ?_
  simp -dsimp
  repeat(first|apply wG|(apply wR;simp -dsimp)|refine aI ?_)
  refine cT (by simp) ?_
  repeat(first|apply wG|(apply wR;simp -dsimp)|refine aI ?_)
  refine WP.ret (finQ.retE ?_)
  simp -dsimp
 | true =>
  obtain ⟨hk, h6⟩ := fewR_ok hfw ⟨g.c, g.m, g.u, g.dl⟩ ho
  have h15 := rmCheck_ok r hk
  simp -dsimp
  repeat(first|apply wG|(apply wR;simp -dsimp)|refine aI ?_)
  refine vcStopG.call0 Tryz.body15 (fun _ => h15) rfl (fun _ => rfl) (fun _ => by simp [rmD, rmC]) ?_
  simp -dsimp
  repeat(first|apply wG|(apply wR;simp -dsimp)|refine aI ?_)
  by_cases h0 : r.fs = [] ∨ rmB r = false
  ·refine cT (by rcases h0 with h | h; (simp [h]); (simp [ckR_no h])) ?_
   repeat(first|apply wG|(apply wR;simp -dsimp)|refine aI ?_)
   refine WP.ret (finQ.retE ?_)
   simp -dsimp
  ·have hv : rmB r = true := by simpa using fun h => h0 (.inr h)
   have hnil : r.fs ≠ [] := fun h => h0 (.inl h)
   have hn0 : 0 < r.fs.length := List.length_pos_iff.2 hnil
   refine cF (by simp [hnil, ckR_yes hv]) ?_
   refine WP.skip ?_
   simp -dsimp
   obtain ⟨A, rfl⟩ : ∃ A : Nat, a = A := ⟨a.toNat, by omega⟩
   obtain ⟨i, hi⟩ : ∃ i, A % r.fs.length = i := ⟨_, rfl⟩
   have hin : i < r.fs.length := by rw [← hi]; exact Nat.mod_lt _ hn0
   have w : IntKind.i64.wrap ((A : Int).tmod (r.fs.length : Int)) = (i : Int) := by
    rw [Int.tmod_eq_emod_of_nonneg (by omega), ← Int.natCast_emod, hi]; exact IntWalk.i64_in _ (by omega)
   have hso : ∀ q ∈ r.fs, sgOk q := fun q hq => (ho q hq).1
   have lC := sgC_len hso
   have w1 : IntKind.u64.wrap (r.fs.length : Int) = (r.fs.length : Int) := by rw [IntKind.wrap_u64]; omega
   repeat(first|apply wG|(apply wR;simp -dsimp [w1, w])|refine aI ?_)
   have k256 := c.toNat_lt
   have e4 : ((c.toNat : Int)).tmod 4 = ((c.toNat % 4 : Nat) : Int) := by rw [Int.tmod_eq_emod_of_nonneg (by omega)]; omega
   rw [e4]
   obtain ⟨k, hk4⟩ : ∃ k, c.toNat % 4 = k := ⟨_, rfl⟩
   rw [hk4] at e4 ⊢
   rcases (by omega : k = 0 ∨ k = 1 ∨ k = 2 ∨ k = 3) with rfl | rfl | rfl | rfl
   ·have hfi := g.fo _ (List.getElem_mem hin)
    have h27 := same_ok f r.fs[i].1 hf hfi.1
    have aa := sgc_at hin hso
    have b7 := sgc_57D r.fs[i]
    have b7m := sgc_57 r.fs[i]
    have lx := sgc_len (hso _ (List.getElem_mem hin))
    refine cT (by simp) ?_
    simp -dsimp
    repeat(first|apply wG|(apply wR;simp -dsimp [w])|refine aI ?_)
    refine And.intro ⟨by omega, fun a h => fcs_side h⟩ ?_
    rw [sgC_setF hso hin f]
    refine WP.weak (Wk.freeze (k := 38) (T := 82) (sz := 61) (n := r.fs.length) (ds := sgC (r.fs.set i (f, r.fs[i].2))) rfl) ?_
    simp -dsimp
    repeat(first|apply wG|(apply wR;simp -dsimp [aa, b7, lx, lC, hin])|refine aI ?_)
    refine vcStop.call0 Tryz.body27 h27 rfl rfl (by simp [fD, b7]) ?_
    simp -dsimp
    repeat(first|apply wG|(apply wR;simp -dsimp)|refine aI ?_)
    cases he : eqF f r.fs[i].1 with
    | true =>
     refine cT (by simp [he]) ?_
     repeat(first|apply wG|(apply wR;simp -dsimp)|refine aI ?_)
     refine WP.ret (finQ.retE ?_)
     simp -dsimp
    | false =>
     have hne : (f, r.fs[i].2) ≠ r.fs[i] := fun h => by
      rw [← h] at he
      rw [(eqF_iff hf hf).2 rfl] at he
      cases he
     have hq : fOk ((f, r.fs[i].2) : Sg).1 ∧ sgT (f, r.fs[i].2) := ⟨hf, hfi.2⟩
     have hbad := ckR_no (rm_set g.fo hv hin hq hne)
     have h15' := rmCheck_ok _ (rmOk_fs hk (by rw [List.length_set]; omega) (sgT_set g.fo (i := i) hq))
     rw [hbad] at h15'
     refine cF (by simp [he]) ?_
     refine WP.skip ?_
     simp -dsimp
     repeat(first|apply wG|(apply wR;simp -dsimp)|refine aI ?_)
     refine vcStop.call0 Tryz.body15 h15' rfl rfl (by simp [rmD, rmC]) ?_
     simp -dsimp
     repeat(first|apply wG|(apply wR;simp -dsimp)|refine aI ?_)
     refine WP.ret (finQ.retE ?_)
     simp -dsimp
   ·have hl1 : (r.fs.take (r.fs.length - 1)).length = r.fs.length - 1 := by rw [List.length_take]; omega
    have e1 : IntKind.i64.wrap ((r.fs.length : Int) - 1) = ((r.fs.length - 1 : Nat) : Int) := by rw [IntWalk.i64_in _ (by omega)]; omega
    have tk := (sgC_take hso (i := r.fs.length - 1) (by omega)).1
    have hbad := ckR_no (rm_fsN hv (l := r.fs.take (r.fs.length - 1)) (by omega))
    have h15' := rmCheck_ok _ (rmOk_fs hk (l := r.fs.take (r.fs.length - 1)) (by omega) (fun p hp => g.fo p (List.mem_of_mem_take hp)))
    rw [hbad] at h15'
    refine cF (by simp) ?_
    simp -dsimp
    repeat(first|apply wG|(apply wR;simp -dsimp)|refine aI ?_)
    refine cT (by simp) ?_
    refine WP.weak (Wk.freeze (k := 38) (T := 82) (sz := 61) (n := r.fs.length) (ds := sgC r.fs) rfl) ?_
    simp -dsimp
    repeat(first|apply wG|(apply wR;simp -dsimp [e1, tk])|refine aI ?_)
    refine vcStop.call0 Tryz.body15 h15' rfl rfl (by simp [rmD, rmC, hl1]) ?_
    simp -dsimp
    repeat(first|apply wG|(apply wR;simp -dsimp)|refine aI ?_)
    refine WP.ret (finQ.retE ?_)
    simp -dsimp
   ·obtain ⟨j, hj⟩ : ∃ j, (i + 1) % r.fs.length = j := ⟨_, rfl⟩
    have hjn : j < r.fs.length := by rw [← hj]; exact Nat.mod_lt _ hn0
    have e1 : IntKind.i64.wrap ((i : Int) + 1) = (i : Int) + 1 := IntWalk.i64_in _ (by omega)
    have e2 : ((i : Int) + 1).tmod (r.fs.length : Int) = (j : Int) := by
     rw [Int.tmod_eq_emod_of_nonneg (by omega), ← hj, Int.natCast_emod, Int.natCast_add]; rfl
    have q61 := sgc_len (hso _ (List.getElem_mem hjn))
    have o61 := sgc_one (hso _ (List.getElem_mem hjn))
    have aj := sgc_atA hjn hso
    have qj := hso _ (List.getElem_mem hjn)
    refine cF (by simp) ?_
    repeat(first|apply wG|(apply wR;simp -dsimp)|refine aI ?_)
    refine cF (by simp) ?_
    repeat(first|apply wG|(apply wR;simp -dsimp)|refine aI ?_)
    refine cT (by simp) ?_
    have hst := sgC_set hso hin qj
    have hso2 := setS_ok hso (i := i) qj
    have hat2 := sgc_atA (x := r.fs.set i r.fs[j]) (i := i) (by rw [List.length_set]; exact hin) hso2
    rw [List.getElem_set_self] at hat2
    have lC2 := sgC_len hso2
    rw [List.length_set] at lC2
    have ai := sgc_at hin hso
    have qi := hso _ (List.getElem_mem hin)
    have i61 := sgc_len qi
    have tj := sgc_tm qj
    have ti := sgc_t qi
    have hjl : j * 61 + 61 ≤ (sgC r.fs).length := by omega
    have hil : i * 61 + 61 ≤ (sgC r.fs).length := by omega
    have hil2 : i * 61 + 61 ≤ (sgC (r.fs.set i r.fs[j])).length := by omega
    have hm1 : min 61 ((sgC r.fs).length - j * 61) = 61 := by omega
    obtain ⟨b, k28, hb⟩ := sameSgU_ok r.fs[j] r.fs[i] qj qi (g.fo _ (List.getElem_mem hjn)).2 (g.fo _ (List.getElem_mem hin)).2
    repeat(first|apply wG|(apply wR;simp -dsimp [w, e1, e2, aj, hst])|refine aI ?_)
    repeat refine And.intro (by first | assumption | omega | exact o61 | (exact ⟨by omega, by assumption, o61⟩) | exact ⟨by assumption, o61⟩ | exact ⟨by omega, by omega⟩) ?_
    simp -dsimp [hst, hat2, lC2, ai]
    refine vcStop.call0L Tryz.body28 k28 rfl rfl (And.intro (by simp [sgV, tj]; try exact Leq.aggD _) (And.intro (by simp [sgV, ti]; try exact .refl _) trivial)) ?_
    simp -dsimp
    repeat refine aI ?_
    cases b with
    | true =>
     refine cT (by simp) ?_
     repeat(first|apply wG|(apply wR;simp -dsimp)|refine aI ?_)
     refine WP.ret (finQ.retE ?_)
     simp -dsimp
    | false =>
     have hne : r.fs[j] ≠ r.fs[i] := fun h => by cases hb h
     have hbad := ckR_no (rm_set g.fo hv hin (g.fo _ (List.getElem_mem hjn)) hne)
     have h15' := rmCheck_ok _ (rmOk_fs hk (by rw [List.length_set]; omega) (sgT_set g.fo (i := i) (g.fo _ (List.getElem_mem hjn))))
     rw [hbad] at h15'
     refine cF (by simp) ?_
     refine WP.skip ?_
     refine WP.weak (Wk.freeze (k := 38) (T := 82) (sz := 61) (n := r.fs.length) (ds := sgC (r.fs.set i r.fs[j])) rfl) ?_
     simp -dsimp
     repeat(first|apply wG|(apply wR;simp -dsimp)|refine aI ?_)
     refine vcStop.call0 Tryz.body15 h15' rfl rfl (by simp [rmD, rmC]) ?_
     simp -dsimp
     repeat(first|apply wG|(apply wR;simp -dsimp)|refine aI ?_)
     refine WP.ret (finQ.retE ?_)
     simp -dsimp
   ·have e1 : IntKind.i64.wrap (r.used - 1) = r.used - 1 := IntWalk.i64_in _ (by have := (rm_parts hv).1; omega)
    have hbad := ckR_no (rm_used hv (u := r.used - 1) (by omega))
    have h15' := rmCheck_ok { r with used := r.used - 1 } ⟨hk.c, hk.m, by have := (rm_parts hv).1; simp only [isI]; omega, hk.dk, hk.sd, hk.lr, hk.fl, hk.fo⟩
    rw [hbad] at h15'
    refine cF (by simp) ?_
    repeat(first|apply wG|(apply wR;simp -dsimp)|refine aI ?_)
    refine cF (by simp) ?_
    repeat(first|apply wG|(apply wR;simp -dsimp)|refine aI ?_)
    refine cF (by simp) ?_
    repeat(first|apply wG|(apply wR;simp -dsimp)|refine aI ?_)
    refine cT (by simp) ?_
    refine WP.weak (Wk.freeze (k := 38) (T := 82) (sz := 61) (n := r.fs.length) (ds := sgC r.fs) rfl) ?_
    simp -dsimp
    repeat(first|apply wG|(apply wR;simp -dsimp [e1])|refine aI ?_)
    refine vcStop.call0 Tryz.body15 h15' rfl rfl (by simp [rmD, rmC]) ?_
    simp -dsimp
    repeat(first|apply wG|(apply wR;simp -dsimp)|refine aI ?_)
    refine WP.ret (finQ.retE ?_)
    simp -dsimp
end Go.Proofs.YtfgcgagcpnbgmaaGreatDoor
