/-
  Joined texts.
-/
import Derived.Test.YtfgcgagcpnbgmaaGreatDoorQOb
import Derived.Test.YtfgcgagcpnbgmaaGreatDoorQNc
import Derived.Test.YtfgcgagcpnbgmaaGreatDoorQMa
import Derived.Test.YtfgcgagcpnbgmaaGreatDoorQNl
import Derived.Test.YtfgcgagcpnbgmaaGreatDoorQNg
set_option linter.unusedVariables false
set_option linter.unusedSimpArgs false
set_option linter.unusedSectionVars false
namespace Go.Proofs.YtfgcgagcpnbgmaaGreatDoor
open Go.Xe Go.RowKit
abbrev edS (a b : List Dg) (i : Nat) : St := mkS 26 [(0, .d (slG a)), (1, .d (slG b)), (12, .d (.v (.int .i64 a.length))), (13, .d (.v (.int .i64 i)))] []
set_option maxRecDepth 10000 in
set_option maxHeartbeats 4000000 in
theorem eqDg_ok (a b : List Dg) (ha : all32 a) (hb : all32 b) (hna : a.length ≤ 10000000000000) (hnb : b.length ≤ 10000000000000) : Fn0 Tryz.prog 156 [slG a, slG b] (.v (.bool (decide (a = b)))) := by
 refine Fun.of_wp (pn := noPn) Tryz.tab Tryz.func156 rfl fun β0 => ?_
 simp only [Tryz.f156]
 repeat(first|apply wG|(apply wR;simp -dsimp [slG])|refine aI ?_)
 by_cases hl : a.length = b.length
 ·refine cF (by simp [hl]) ?_
  refine WP.skip ?_
  simp -dsimp
  repeat(first|apply wG|(apply wR;simp -dsimp)|refine aI ?_)
  refine WP.loopWk (fun q S => ∃ i : Nat, q = a.length - i ∧ i ≤ a.length ∧ (∀ j, j < i → digA a j = digA b j) ∧ S = edS a b i) a.length (S0 := edS a b 0) (Wk.lessE [] (by simp [slG]) (by simp)) ⟨0, rfl, by omega, fun j h => by omega, rfl⟩ ?_
  rintro _ _ ⟨i, rfl, hi, hj, rfl⟩
  simp -dsimp [slG]
  repeat(first|apply wG|(apply wR;simp -dsimp)|refine aI ?_)
  by_cases hil : i < a.length
  ·have hib : i < b.length := by omega
   have aa := dgL_at ha i hil
   have ab := dgL_at hb i hib
   have la := digA_32 ha i hil
   have lb := digA_32 hb i hib
   have ca := dgL_len ha
   have cb := dgL_len hb
   have ta := bys_t32L la
   have tb := bys_t32L lb
   have e1 : IntKind.i64.wrap ((i : Int) + 1) = ((i + 1 : Nat) : Int) := by rw [IntWalk.i64_in _ (by omega)]; omega
   have hstep : digA a i = digA b i → ∀ j, j < i + 1 → digA a j = digA b j := fun h j hj1 => by
    rcases Nat.lt_or_ge j i with h1 | h1
    ·exact hj j h1
    ·rw [show j = i by omega]; exact h
   have hbad : digA a i ≠ digA b i → a ≠ b := fun h e => h (by rw [e])
   generalize digA a i = x at *
   generalize digA b i = y at *
   refine cT (by simp; omega) ?_
   refine WP.skip ?_
   simp -dsimp
   repeat(first|apply wG|(apply wR;simp -dsimp [aa, ab, ta, tb])|refine aI ?_)
   refine vcStop.eqA Tryz.tab gokB noarrB rfl (.inr rfl) (q := 4) (by omega) (T := 87) Tryz.τ87 Tryz.keyB (by decide) Tryz.gdX (cs := onesB x) (es := onesB y) (by simp [onesB_flat]) (by simp [onesB_flat]) (by simp [onesB, la]) (by simp [onesB, lb]) (onesB_ok x) (onesB_ok y) (lits_same x y) ?_
   simp -dsimp [eqRes]
   repeat(first|apply wG|(apply wR;simp -dsimp)|refine aI ?_)
   by_cases hxy : x = y
   ·refine cF (by simp [eqRes, hxy]) ?_
    refine WP.skip ?_
    simp -dsimp
    repeat(first|apply wG|(apply wR;simp -dsimp)|refine aI ?_)
    refine loopW.next (edS a b (i + 1)) (Wk.lessE [] (by simp [e1, slG]) (by simp)) (a.length - (i + 1)) (by omega) ⟨i + 1, rfl, by omega, hstep hxy, rfl⟩
   ·refine cT (by simp [eqRes, hxy]) ?_
    have hr : decide (a = b) = false := decide_eq_false (hbad hxy)
    repeat(first|apply wG|(apply wR;simp -dsimp)|refine aI ?_)
    refine WP.ret (finQ.retE ?_)
    simp -dsimp [hr]
  ·refine cF (by simp; omega) ?_
   refine WP.exit ?_
   have hr : decide (a = b) = true := decide_eq_true (digA_ext hl fun j h => hj j (by omega))
   simp -dsimp
   repeat(first|apply wG|(apply wR;simp -dsimp)|refine aI ?_)
   refine WP.ret (finQ.retE ?_)
   simp -dsimp [hr]
 ·refine cT (by simp; omega) ?_
  have hr : decide (a = b) = false := decide_eq_false fun h => hl (by rw [h])
  repeat(first|apply wG|(apply wR;simp -dsimp)|refine aI ?_)
  refine WP.ret (finQ.retE ?_)
  simp -dsimp [hr]
end Go.Proofs.YtfgcgagcpnbgmaaGreatDoor
set_option linter.unusedVariables false
set_option linter.unusedSimpArgs false
set_option linter.unusedSectionVars false
namespace Go.Proofs.YtfgcgagcpnbgmaaGreatDoor
open Go.Xe Go.RowKit
set_option maxRecDepth 10000 in
set_option maxHeartbeats 4000000 in
theorem sgEq_ok (p q : Sg) (hp : sgOk p) (hq : sgOk q) (up : sgT p) (uq : sgT q) : Fn0 Tryz.prog 90 [sgV p, sgV q] (.v (.bool (sgEq p q))) := by
 have k1 := same_ok p.1 q.1 hp.1 hq.1
 have l1 := sgc_len hp
 have l2 := sgc_len hq
 have h57 := sgc_57 p
 have g57 := sgc_57 q
 have h4 : List.take 4 (List.drop 57 ((sgc p).map AV.d)) = p.2.map .d := by rw [← List.map_drop, ← List.map_take, sgcT_sig hp]
 have g4 : List.take 4 (List.drop 57 ((sgc q).map AV.d)) = q.2.map .d := by rw [← List.map_drop, ← List.map_take, sgcT_sig hq]
 obtain ⟨k, o, c, a, e, h⟩ := up
 obtain ⟨k', o', c', a', e', h'⟩ := uq
 have k2 := eqDg_ok o o' h.ho h'.ho h.no h'.no
 have k3 := eqDg_ok c c' h.hc h'.hc h.nc h'.nc
 have k4 := eqDg_ok a a' h.hp h'.hp h.np h'.np
 have hr : sgEq p q = (eqF p.1 q.1 && (decide (k = k') && (decide (o = o') && (decide (c = c') && decide (a = a'))))) := by
  rw [sgEq, e, e', (sgDg_sig h).1, (sgDg_sig h).2.1, (sgDg_sig h).2.2, (sgDg_sig h').1, (sgDg_sig h').2.1, (sgDg_sig h').2.2]; rfl
 rw [hr]
 rw [e] at h4
 rw [e'] at g4
 clear hr h h' e e'
 generalize eqF p.1 q.1 = b1 at *
 generalize decide (o = o') = b2 at *
 generalize decide (c = c') = b3 at *
 generalize decide (a = a') = b4 at *
 simp only [sgV]
 refine Fun.of_wp (pn := noPn) Tryz.tab Tryz.func90 rfl fun β0 => ?_
 simp only [Tryz.f90]
 repeat(first|apply wG|(apply wR;simp -dsimp)|refine aI ?_)
 refine And.intro (sgc_oneD hp) ?_
 repeat(first|apply wG|(apply wR;simp -dsimp)|refine aI ?_)
 refine And.intro (sgc_oneD hq) ?_
 repeat(first|apply wG|(apply wR;simp -dsimp [h57, h4, g57, g4, sigC, slG])|refine aI ?_)
 refine vcStop.call0L Tryz.body27 k1 rfl rfl (And.intro (by simp [fD]) (And.intro (by simp [fD]) trivial)) ?_
 cases b1 with
 | false =>
  simp -dsimp
  repeat(first|apply wG|(apply wR;simp -dsimp)|refine aI ?_)
  refine vcStopG.skip (.d (.v (.bool false))) ?_
  simp -dsimp
  repeat(first|apply wG|(apply wR;simp -dsimp)|refine aI ?_)
  refine vcStopG.skip (.d (.v (.bool false))) ?_
  simp -dsimp
  repeat(first|apply wG|(apply wR;simp -dsimp)|refine aI ?_)
  refine vcStopG.skip (.d (.v (.bool false))) ?_
  simp -dsimp
  repeat(first|apply wG|(apply wR;simp -dsimp)|refine aI ?_)
  refine WP.ret (finQ.retE ?_)
  simp -dsimp
 | true =>
  simp -dsimp
  repeat(first|apply wG|(apply wR;simp -dsimp)|refine aI ?_)
  refine vcStopG.call0 Tryz.body156 (fun _ => k2) rfl (fun _ => rfl) (fun _ => by simp [slG]) ?_
  simp -dsimp
  repeat(first|apply wG|(apply wR;simp -dsimp)|refine aI ?_)
  refine vcStopG.call0 Tryz.body156 (fun _ => k3) rfl (fun _ => rfl) (fun _ => by simp [slG]) ?_
  simp -dsimp
  repeat(first|apply wG|(apply wR;simp -dsimp)|refine aI ?_)
  refine vcStopG.call0 Tryz.body156 (fun _ => k4) rfl (fun _ => rfl) (fun _ => by simp [slG]) ?_
  simp -dsimp
  repeat(first|apply wG|(apply wR;simp -dsimp)|refine aI ?_)
  refine WP.ret (finQ.retE ?_)
  simp -dsimp [Bool.and_assoc]
end Go.Proofs.YtfgcgagcpnbgmaaGreatDoor
set_option linter.unusedVariables false
set_option linter.unusedSimpArgs false
set_option linter.unusedSectionVars false
namespace Go.Proofs.YtfgcgagcpnbgmaaGreatDoor
open Go.Xe Go.RowKit
theorem sgsB_len : ∀ {a b : List Sg}, sgsB a b = true → a.length = b.length
 | [], [], _ => rfl
 | [], _ :: _, h => by simp [sgsB] at h
 | _ :: _, [], h => by simp [sgsB] at h
 | p :: a, q :: b, h => by
  rw [sgsB, Bool.and_eq_true] at h
  rw [List.length_cons, List.length_cons, sgsB_len h.2]
theorem sgsB_at {a b : List Sg} {i : Nat} (ha : i < a.length) (hb : i < b.length) : sgsB (a.drop i) (b.drop i) = (sgEq a[i] b[i] && sgsB (a.drop (i + 1)) (b.drop (i + 1))) := by
 rw [List.drop_eq_getElem_cons ha, List.drop_eq_getElem_cons hb, sgsB]
abbrev fnSg : D := .v (.func (.func 90) #[] #[])
abbrev esS (a b : List Sg) (i : Nat) : St := mkS 32 [(0, .d (sgD a false)), (1, .d (sgD b false)), (2, .d fnSg), (15, .d (sgD a false)), (16, .d (.v (.int .i64 a.length))), (17, .d (.v (.int .i64 i)))] []
set_option maxRecDepth 10000 in
set_option maxHeartbeats 2000000 in
theorem eqSgs_ok (a b : List Sg) (ha : a.length ≤ 1000000000000) (hb : b.length ≤ 1000000000000) (oa : ∀ p ∈ a, sgOk p ∧ sgT p) (ob : ∀ p ∈ b, sgOk p ∧ sgT p) : Fn0 Tryz.prog 89 [sgD a false, sgD b false, fnSg] (.v (.bool (sgsB a b))) := by
 have la := sgC_len (l := a) fun p h => (oa p h).1
 have lb := sgC_len (l := b) fun p h => (ob p h).1
 refine Fun.of_wp (pn := noPn) Tryz.tab Tryz.func89 rfl fun β0 => ?_
 simp only [Tryz.f89]
 repeat(first|apply wG|(apply wR;simp -dsimp)|refine aI ?_)
 by_cases hl : a.length = b.length
 ·refine cF (by simp [hl]) ?_
  refine WP.skip ?_
  simp -dsimp
  repeat(first|apply wG|(apply wR;simp -dsimp)|refine aI ?_)
  refine WP.loopWk (fun q S => ∃ i : Nat, q = a.length - i ∧ i ≤ a.length ∧ sgsB a b = sgsB (a.drop i) (b.drop i) ∧ S = esS a b i) a.length (S0 := esS a b 0) (Wk.lessE [] (by simp) (by simp)) ⟨0, rfl, by omega, rfl, rfl⟩ ?_
  rintro _ _ ⟨i, rfl, hi, ht, rfl⟩
  simp -dsimp
  repeat(first|apply wG|(apply wR;simp -dsimp)|refine aI ?_)
  by_cases hin : i < a.length
  ·have hib : i < b.length := by omega
   have e1 : IntKind.i64.wrap ((i : Int) + 1) = ((i + 1 : Nat) : Int) := by rw [IntWalk.i64_in _ (by omega)]; omega
   obtain ⟨o1, t1⟩ := oa _ (List.getElem_mem hin)
   obtain ⟨o2, t2⟩ := ob _ (List.getElem_mem hib)
   have heq := sgEq_ok a[i] b[i] o1 o2 t1 t2
   have aa := sgc_at hin fun p h => (oa p h).1
   have ab := sgc_at hib fun p h => (ob p h).1
   have hs := sgsB_at hin hib
   rw [hs] at ht
   generalize a[i] = x at *
   generalize b[i] = y at *
   have lx := sgc_len o1
   have ly := sgc_len o2
   have tx := sgc_tm o1
   have ty := sgc_tm o2
   have ox := sgc_one o1
   have oy := sgc_one o2
   refine cT (by simp; omega) ?_
   refine WP.skip ?_
   simp -dsimp
   repeat(first|apply wG|(apply wR;simp -dsimp [aa, ab, la, lb, hin, hib, setL_whole, lx, ly, tx, ty])|refine aI ?_)
   refine vcStop.call0L Tryz.body90 heq rfl rfl (And.intro (by simp [sgV]) (And.intro (by simp [sgV]) trivial)) ?_
   simp -dsimp
   repeat(first|apply wG|(apply wR;simp -dsimp)|refine aI ?_)
   refine WP.cond (b := !sgEq x y) (by simp) (fun hc => ?_) (fun hc => ?_)
   ·have hc : sgEq x y = false := by simpa using hc
    rw [hc, Bool.false_and] at ht
    repeat(first|apply wG|(apply wR;simp -dsimp)|refine aI ?_)
    refine WP.ret (finQ.retE ?_)
    simp -dsimp [ht]
   ·have hc : sgEq x y = true := by simpa using hc
    rw [hc, Bool.true_and] at ht
    refine WP.skip ?_
    simp -dsimp
    repeat(first|apply wG|(apply wR;simp -dsimp)|refine aI ?_)
    refine loopW.next (esS a b (i + 1)) (Wk.lessE [8, 9] (by simp [e1]) (by simp)) (a.length - (i + 1)) (by omega) ⟨i + 1, rfl, by omega, ht, rfl⟩
  ·obtain rfl : i = a.length := by omega
   have hab : sgsB a b = true := by rw [ht, List.drop_length, hl, List.drop_length]; rfl
   refine cF (by simp) ?_
   refine WP.exit ?_
   simp -dsimp
   repeat(first|apply wG|(apply wR;simp -dsimp)|refine aI ?_)
   refine WP.ret (finQ.retE ?_)
   simp -dsimp [hab]
 ·have hne : sgsB a b = false := by
   cases h : sgsB a b with
   | false => rfl
   | true => exact absurd (sgsB_len h) hl
  refine cT (by simp; omega) ?_
  repeat(first|apply wG|(apply wR;simp -dsimp)|refine aI ?_)
  refine WP.ret (finQ.retE ?_)
  simp -dsimp [hne]
end Go.Proofs.YtfgcgagcpnbgmaaGreatDoor
set_option maxRecDepth 10000
set_option linter.unusedVariables false
set_option linter.unusedSimpArgs false
set_option linter.unusedSectionVars false
namespace Go.Proofs.YtfgcgagcpnbgmaaGreatDoor
open Go.Xe Go.RowKit
def rmC (r : Rm) : List D := .v (.int .i64 r.crew) :: slB r.seed :: .v (.int .i64 r.many) :: .v (.int .i64 r.used) :: slLB r.dk.s :: wrD r.dk.p :: .v (.int .i64 r.dk.left) :: .v (.bool r.dk.st) :: .v (.int .i64 r.lm) :: slLB r.lr :: .v (.int .i64 r.ls) :: sgD r.fs false :: .v (.int .i64 r.sent) :: []
def rmD (r : Rm) : D := .agg (rmC r)
structure rmOk (r : Rm) : Prop where
 c : isI r.crew
 m : isI r.many
 u : isI r.used
 dk : dkOk r.dk
 sd : r.seed.length ≤ 1000
 lr : r.lr.length ≤ 1000000000000
 fl : r.fs.length ≤ 1000000000000
 fo : ∀ p ∈ r.fs, sgOk p ∧ sgT p
theorem numbers_ok44 (r : Rm) : Fn0 Tryz.prog 46 [rmD r] (.v (.bool (decide (0 ≤ r.crew ∧ r.crew < 32 ∧ r.used = r.fs.length ∧ 0 ≤ r.sent ∧ r.sent ≤ r.fs.length)))) := by
 have h38 := isCrew_ok r.crew
 refine Fun.of_wp (pn := noPn) Tryz.tab Tryz.func46 rfl fun β0 => ?_
 simp only [Tryz.f46]
 repeat(first|apply wG|(apply wR;simp -dsimp [rmD, rmC])|refine aI ?_)
 refine vcStop.call0 Tryz.body38 h38 rfl rfl (by simp) ?_
 simp -dsimp
 repeat(first|apply wG|(apply wR;simp -dsimp)|refine aI ?_)
 refine WP.ret (finQ.retE ?_)
 simp -dsimp [Bool.and_assoc]
theorem pblR_32 (seed : By) (m u : Int) : (pblR seed m u).1.length = 32 := by
 unfold pblR
 split
 ·exact treeB_len _
 ·rfl
theorem signs_ok44 (r : Rm) (hs : r.seed.length ≤ 1000) : Fn0 Tryz.prog 47 [rmD r] (.v (.bool (keyV r.seed r.many r.used))) := by
 have h29 := public8_ok r.seed hs r.many r.used
 obtain ⟨d, e, hde, h32⟩ : ∃ (d : Dg) (e : Int), pblR r.seed r.many r.used = (d, e) ∧ d.length = 32 := ⟨_, _, rfl, pblR_32 _ _ _⟩
 have hke : decide (e = 0) = keyV r.seed r.many r.used := by
  have h2 : (pblR r.seed r.many r.used).2 = e := by rw [hde]
  rw [← h2, pblR]
  cases keyV r.seed r.many r.used <;> rfl
 rw [hde, dD] at h29
 have ld := bys_len d
 have h1 : ∀ c ∈ bys d, oneD c = true := fun c hc => by
  obtain ⟨x, _, rfl⟩ := List.mem_map.1 hc
  rfl
 refine Fun.of_wp (pn := noPn) Tryz.tab Tryz.func47 rfl fun β0 => ?_
 simp only [Tryz.f47]
 repeat(first|apply wG|(apply wR;simp -dsimp [rmD, rmC])|refine aI ?_)
 refine vcStop.call0 Tryz.body29 h29 rfl rfl (by simp [keyD, slB]) ?_
 simp -dsimp
 repeat(first|apply wG|(apply wR;simp -dsimp [ld, h32, setL_whole])|refine aI ?_)
 refine WP.ret (finQ.retE ?_)
 simp -dsimp [hke]
theorem runs_ok44 (r : Rm) (hd : dkOk r.dk) : Fn0 Tryz.prog 48 [rmD r] (.v (.bool (dkB r.dk && (!r.dk.st && decide (r.dk.p.length = 0))))) := by
 have h82 := dkCheck_ok r.dk hd
 refine Fun.of_wp (pn := noPn) Tryz.tab Tryz.func48 rfl fun β0 => ?_
 simp only [Tryz.f48]
 repeat(first|apply wG|(apply wR;simp -dsimp [rmD, rmC])|refine aI ?_)
 refine vcStop.call0 Tryz.body82 h82 rfl rfl (by simp [dkD, dkC]) ?_
 simp -dsimp
 repeat(first|apply wG|(apply wR;simp -dsimp)|refine aI ?_)
 refine WP.ret (finQ.retE ?_)
 simp -dsimp [dkE_zero, Bool.and_assoc]
theorem logged_ok44 (r : Rm) (h : rmOk r) (hb : dkB r.dk = true) (hst : r.dk.st = false) (hp : r.dk.p.length = 0) : Fn0 Tryz.prog 49 [rmD r] (.v (.bool (decide ((r.dk.s.length : Int) = r.lm ∧ ((recs r.dk.s).length : Int) = r.ls ∧ recs r.dk.s = r.lr)))) := by
 have h40 := open_ok4 r.dk h.dk
 rw [opnP, if_pos hb, if_neg (by rw [hst]; decide), if_neg (by omega), logD, lgC] at h40
 have h87 := eqRecs_ok (recs r.dk.s) r.lr (by have := recs_used' (dkB_iff.1 hb).2.2; have := (dkB_iff.1 hb).1.2.1; omega) h.lr
 refine Fun.of_wp (pn := noPn) Tryz.tab Tryz.func49 rfl fun β0 => ?_
 simp only [Tryz.f49]
 repeat(first|apply wG|(apply wR;simp -dsimp [rmD, rmC])|refine aI ?_)
 refine vcStop.call0 Tryz.body40 h40 rfl rfl (by simp [dkD, dkC]) ?_
 simp -dsimp
 repeat(first|apply wG|(apply wR;simp -dsimp)|refine aI ?_)
 refine vcStopG.call0 Tryz.body87 (fun _ => h87) rfl (fun _ => rfl) (fun _ => by simp) ?_
 simp -dsimp
 repeat(first|apply wG|(apply wR;simp -dsimp)|refine aI ?_)
 refine WP.ret (finQ.retE ?_)
 simp -dsimp [Bool.decide_and, Bool.and_assoc]
theorem onL_ok {crew m : Int} {seed : By} {i : Nat} {l : List By} (h : onB crew m i l = true) (hm : m ≤ 4096) (hl : ∀ b ∈ l, b.length ≤ 1000000000000) : ∀ p ∈ onL seed m l, sgOk p ∧ sgT p := by
 intro p hp
 obtain ⟨h1, h2⟩ := onL_T h hm hl p hp
 refine ⟨⟨h1, ?_, ?_⟩, h2⟩
 ·obtain ⟨b, _, rfl⟩ := List.mem_map.1 hp
  rfl
 ·obtain ⟨b, _, rfl⟩ := List.mem_map.1 hp
  exact fun d hd => sigC_one hd
theorem faithful_ok44 (r : Rm) (h : rmOk r) (hk : keyV r.seed r.many r.used = true) (hR : r.lr.length ≤ 1000000) (hb : ∀ b ∈ r.lr, b.length ≤ 1000000) : Fn0 Tryz.prog 50 [rmD r] (.v (.bool (onB r.crew r.many 0 r.lr && sgsB (onL r.seed r.many r.lr) r.fs))) := by
 have h65 := signed44_ok r.crew r.seed r.many r.used r.lm r.lr r.ls hk hR hb
 refine Fun.of_wp (pn := noPn) Tryz.tab Tryz.func50 rfl fun β0 => ?_
 simp only [Tryz.f50]
 repeat(first|apply wG|(apply wR;simp -dsimp [rmD, rmC])|refine aI ?_)
 refine vcStop.call0 Tryz.body65 h65 rfl rfl (by simp [keyD, slB, logD, lgC]) ?_
 unfold sgnL
 cases hon : onB r.crew r.many 0 r.lr with
 | true =>
  rw [if_pos rfl, Bool.true_and]
  have hm := (keyV_iff.1 hk).2.2.2.1
  have heq := eqSgs_ok (onL r.seed r.many r.lr) r.fs (by rw [onL_len]; omega) h.fl (fun p hp => onL_ok hon hm (fun b hh => by have := hb b hh; omega) p hp) h.fo
  simp -dsimp
  repeat(first|apply wG|(apply wR;simp -dsimp)|refine aI ?_)
  refine vcStopG.call0 Tryz.body89 (fun _ => heq) rfl (fun _ => rfl) (fun _ => by simp) ?_
  simp -dsimp
  repeat(first|apply wG|(apply wR;simp -dsimp)|refine aI ?_)
  refine WP.ret (finQ.retE ?_)
  simp -dsimp
 | false =>
  rw [if_neg (by decide), Bool.false_and]
  simp -dsimp
  repeat(first|apply wG|(apply wR;simp -dsimp)|refine aI ?_)
  refine vcStopG.skip (.d (.v (.bool false))) ?_
  simp -dsimp
  repeat(first|apply wG|(apply wR;simp -dsimp)|refine aI ?_)
  refine WP.ret (finQ.retE ?_)
  simp -dsimp
end Go.Proofs.YtfgcgagcpnbgmaaGreatDoor
set_option linter.unusedVariables false
set_option linter.unusedSimpArgs false
set_option linter.unusedSectionVars false
namespace Go.Proofs.YtfgcgagcpnbgmaaGreatDoor
open Go.Xe Go.RowKit
def c5 (r : Rm) : Nat → Bool
 | 0 => decide (0 ≤ r.crew ∧ r.crew < 32 ∧ r.used = r.fs.length ∧ 0 ≤ r.sent ∧ r.sent ≤ r.fs.length)
 | 1 => keyV r.seed r.many r.used
 | 2 => dkB r.dk && (!r.dk.st && decide (r.dk.p.length = 0))
 | 3 => decide ((r.dk.s.length : Int) = r.lm ∧ ((recs r.dk.s).length : Int) = r.ls ∧ recs r.dk.s = r.lr)
 | _ => onB r.crew r.many 0 r.lr && sgsB (onL r.seed r.many r.lr) r.fs
theorem c5_all (r : Rm) : rmB r = (c5 r 0 && (c5 r 1 && (c5 r 2 && (c5 r 3 && c5 r 4)))) := rfl
abbrev rA (r : Rm) : AV := .agg ((rmC r).map .d)
abbrev ckS (r : Rm) (i : Nat) : St := mkS 26 [(2, .d (.v (.int .i64 0))), (18, .agg [.fn (.func 46) [rA r] [], .fn (.func 47) [rA r] [], .fn (.func 48) [rA r] [], .fn (.func 49) [rA r] [], .fn (.func 50) [rA r] []]), (19, .d (.v (.int .i64 i)))] []
def ckR (r : Rm) : Int := if rmB r = true then 0 else 440
set_option maxRecDepth 10000 in
set_option maxHeartbeats 2000000 in
theorem rmCheck_ok (r : Rm) (h : rmOk r) : Fn0 Tryz.prog 15 [rmD r] (.v (.int .i64 (ckR r))) := by
 have hs1 := signs_ok44 r h.sd
 have hs0 := numbers_ok44 r
 have hs2 := runs_ok44 r h.dk
 refine Fun.of_wp (pn := noPn) Tryz.tab Tryz.func15 rfl fun β0 => ?_
 simp only [Tryz.f15]
 repeat(first|apply wG|(apply wR;simp -dsimp [rmD, rmC])|refine aI ?_)
 refine WP.loopWk (fun q S => ∃ i : Nat, q = 5 - i ∧ i ≤ 5 ∧ (∀ j, j < i → c5 r j = true) ∧ S = ckS r i) 5 (S0 := ckS r 0) (Wk.lessE [] (by simp [rmC]; exact Leq.refl _) (by simp)) ⟨0, rfl, by omega, fun j hj => by omega, rfl⟩ ?_
 rintro _ _ ⟨i, rfl, hi, hj, rfl⟩
 simp -dsimp
 repeat(first|apply wG|(apply wR;simp -dsimp)|refine aI ?_)
 rcases (by omega : i = 5 ∨ i = 0 ∨ i = 1 ∨ i = 2 ∨ i = 3 ∨ i = 4) with rfl | rfl | rfl | rfl | rfl | rfl
 ·have hR : ckR r = 0 := by rw [ckR, c5_all, hj 0 (by omega), hj 1 (by omega), hj 2 (by omega), hj 3 (by omega), hj 4 (by omega)]; rfl
  refine cF (by simp) ?_
  refine WP.exit ?_
  simp -dsimp
  repeat(first|apply wG|(apply wR;simp -dsimp)|refine aI ?_)
  refine WP.ret (finQ.retE ?_)
  simp -dsimp [hR]
 ·refine cT (by simp) ?_
  refine WP.skip ?_
  simp -dsimp
  repeat(first|apply wG|(apply wR;simp -dsimp [rmC])|refine aI ?_)
  refine vcStop.call0 Tryz.body46 hs0 rfl rfl (by simp [rmD, rmC]) ?_
  simp -dsimp
  repeat(first|apply wG|(apply wR;simp -dsimp)|refine aI ?_)
  refine WP.cond (b := !c5 r 0) (by simp [c5]) (fun hc => ?_) (fun hc => ?_)
  ·have hc : c5 r 0 = false := by simpa using hc
   have hR : ckR r = 440 := by rw [ckR, c5_all, hc]; simp
   repeat(first|apply wG|(apply wR;simp -dsimp)|refine aI ?_)
   refine WP.ret (finQ.retE ?_)
   simp -dsimp [hR]
  ·have hc : c5 r 0 = true := by simpa using hc
   have w1 : IntKind.i64.wrap (1 : Int) = (1 : Int) := by decide
   refine WP.skip ?_
   simp -dsimp
   repeat(first|apply wG|(apply wR;simp -dsimp)|refine aI ?_)
   refine loopW.next (ckS r 1) (Wk.lessE [] (by simp [w1, rmC]) (by simp)) (5 - 1) (by omega) ⟨1, rfl, by omega, fun j hj1 => ?_, rfl⟩
   rcases Nat.lt_or_eq_of_le (Nat.le_of_lt_succ hj1) with h1 | rfl
   ·exact hj j h1
   ·exact hc
 ·refine cT (by simp) ?_
  refine WP.skip ?_
  simp -dsimp
  repeat(first|apply wG|(apply wR;simp -dsimp [rmC])|refine aI ?_)
  refine vcStop.call0 Tryz.body47 hs1 rfl rfl (by simp [rmD, rmC]) ?_
  simp -dsimp
  repeat(first|apply wG|(apply wR;simp -dsimp)|refine aI ?_)
  refine WP.cond (b := !c5 r 1) (by simp [c5]) (fun hc => ?_) (fun hc => ?_)
  ·have hc : c5 r 1 = false := by simpa using hc
   have hR : ckR r = 440 := by rw [ckR, c5_all, hc]; simp
   repeat(first|apply wG|(apply wR;simp -dsimp)|refine aI ?_)
   refine WP.ret (finQ.retE ?_)
   simp -dsimp [hR]
  ·have hc : c5 r 1 = true := by simpa using hc
   have w1 : IntKind.i64.wrap 2 = 2 := by decide
   refine WP.skip ?_
   simp -dsimp
   repeat(first|apply wG|(apply wR;simp -dsimp)|refine aI ?_)
   refine loopW.next (ckS r 2) (Wk.lessE [] (by simp [w1, rmC]) (by simp)) (5 - 2) (by omega) ⟨2, rfl, by omega, fun j hj1 => ?_, rfl⟩
   rcases Nat.lt_or_eq_of_le (Nat.le_of_lt_succ hj1) with h1 | rfl
   ·exact hj j h1
   ·exact hc
 ·refine cT (by simp) ?_
  refine WP.skip ?_
  simp -dsimp
  repeat(first|apply wG|(apply wR;simp -dsimp [rmC])|refine aI ?_)
  refine vcStop.call0 Tryz.body48 hs2 rfl rfl (by simp [rmD, rmC]) ?_
  simp -dsimp
  repeat(first|apply wG|(apply wR;simp -dsimp)|refine aI ?_)
  refine WP.cond (b := !c5 r 2) (by simp [c5]) (fun hc => ?_) (fun hc => ?_)
  ·have hc : c5 r 2 = false := by simpa using hc
   have hR : ckR r = 440 := by rw [ckR, c5_all, hc]; simp
   repeat(first|apply wG|(apply wR;simp -dsimp)|refine aI ?_)
   refine WP.ret (finQ.retE ?_)
   simp -dsimp [hR]
  ·have hc : c5 r 2 = true := by simpa using hc
   have w1 : IntKind.i64.wrap 3 = 3 := by decide
   refine WP.skip ?_
   simp -dsimp
   repeat(first|apply wG|(apply wR;simp -dsimp)|refine aI ?_)
   refine loopW.next (ckS r 3) (Wk.lessE [] (by simp [w1, rmC]) (by simp)) (5 - 3) (by omega) ⟨3, rfl, by omega, fun j hj1 => ?_, rfl⟩
   rcases Nat.lt_or_eq_of_le (Nat.le_of_lt_succ hj1) with h1 | rfl
   ·exact hj j h1
   ·exact hc
 ·refine cT (by simp) ?_
  refine WP.skip ?_
  simp -dsimp
  repeat(first|apply wG|(apply wR;simp -dsimp [rmC])|refine aI ?_)
  have b2 := hj 2 (by omega)
  simp only [c5, Bool.and_eq_true, Bool.not_eq_true', decide_eq_true_eq] at b2
  have hs3 := logged_ok44 r h b2.1 b2.2.1 b2.2.2
  refine vcStop.call0 Tryz.body49 hs3 rfl rfl (by simp [rmD, rmC]) ?_
  simp -dsimp
  repeat(first|apply wG|(apply wR;simp -dsimp)|refine aI ?_)
  refine WP.cond (b := !c5 r 3) (by simp [c5]) (fun hc => ?_) (fun hc => ?_)
  ·have hc : c5 r 3 = false := by simpa using hc
   have hR : ckR r = 440 := by rw [ckR, c5_all, hc]; simp
   repeat(first|apply wG|(apply wR;simp -dsimp)|refine aI ?_)
   refine WP.ret (finQ.retE ?_)
   simp -dsimp [hR]
  ·have hc : c5 r 3 = true := by simpa using hc
   have w1 : IntKind.i64.wrap 4 = 4 := by decide
   refine WP.skip ?_
   simp -dsimp
   repeat(first|apply wG|(apply wR;simp -dsimp)|refine aI ?_)
   refine loopW.next (ckS r 4) (Wk.lessE [] (by simp [w1, rmC]) (by simp)) (5 - 4) (by omega) ⟨4, rfl, by omega, fun j hj1 => ?_, rfl⟩
   rcases Nat.lt_or_eq_of_le (Nat.le_of_lt_succ hj1) with h1 | rfl
   ·exact hj j h1
   ·exact hc
 ·refine cT (by simp) ?_
  refine WP.skip ?_
  simp -dsimp
  repeat(first|apply wG|(apply wR;simp -dsimp [rmC])|refine aI ?_)
  have b1 : keyV r.seed r.many r.used = true := hj 1 (by omega)
  have b2 := hj 2 (by omega)
  have b3 := hj 3 (by omega)
  simp only [c5, Bool.and_eq_true, Bool.not_eq_true', decide_eq_true_eq] at b2 b3
  have hdd := dkB_iff.1 b2.1
  have hrl := recs_used' hdd.2.2
  have hsm := recs_small hdd.2.2 hdd.1.2.1
  rw [b3.2.2] at hrl hsm
  have hs4 := faithful_ok44 r h b1 (by have := hdd.1.2.1; omega) (fun b hb => by have := hsm b hb; omega)
  refine vcStop.call0 Tryz.body50 hs4 rfl rfl (by simp [rmD, rmC]) ?_
  simp -dsimp
  repeat(first|apply wG|(apply wR;simp -dsimp)|refine aI ?_)
  refine WP.cond (b := !c5 r 4) (by simp [c5]) (fun hc => ?_) (fun hc => ?_)
  ·have hc : c5 r 4 = false := by simpa using hc
   have hR : ckR r = 440 := by rw [ckR, c5_all, hc]; simp
   repeat(first|apply wG|(apply wR;simp -dsimp)|refine aI ?_)
   refine WP.ret (finQ.retE ?_)
   simp -dsimp [hR]
  ·have hc : c5 r 4 = true := by simpa using hc
   have w1 : IntKind.i64.wrap 5 = 5 := by decide
   refine WP.skip ?_
   simp -dsimp
   repeat(first|apply wG|(apply wR;simp -dsimp)|refine aI ?_)
   refine loopW.next (ckS r 5) (Wk.lessE [] (by simp [w1, rmC]) (by simp)) (5 - 5) (by omega) ⟨5, rfl, by omega, fun j hj1 => ?_, rfl⟩
   rcases Nat.lt_or_eq_of_le (Nat.le_of_lt_succ hj1) with h1 | rfl
   ·exact hj j h1
   ·exact hc
end Go.Proofs.YtfgcgagcpnbgmaaGreatDoor
set_option linter.unusedVariables false
set_option linter.unusedSimpArgs false
set_option linter.unusedSectionVars false
namespace Go.Proofs.YtfgcgagcpnbgmaaGreatDoor
open Go.Xe Go.RowKit
def rmT (x : Rm × Int) : D := .tup [rmD x.1, .v (.int .i64 x.2)]
theorem rmD_ze : rmD zeR = .agg [.v (.int .i64 0), .sl 1 [] 0 false, .v (.int .i64 0), .v (.int .i64 0), .sl 1 [] 0 false, .sl 2 [] 0 false, .v (.int .i64 0), .v (.bool false), .v (.int .i64 0), .sl 1 [] 0 false, .v (.int .i64 0), .sl 61 [] 0 false, .v (.int .i64 0)] := rfl
theorem pblR_yes {seed : By} {m u : Int} (h : keyV seed m u = true) : ∃ d : Dg, pblR seed m u = (d, 0) ∧ d.length = 32 := ⟨_, by rw [pblR, if_pos h], treeB_len _⟩
theorem pblR_no {seed : By} {m u : Int} (h : ¬ keyV seed m u = true) : pblR seed m u = (z32, 40) := by rw [pblR, if_neg h]
theorem bys_oneD (d : By) : ∀ c ∈ bys d, oneD c = true := fun c hc => by
 obtain ⟨x, _, rfl⟩ := List.mem_map.1 hc
 rfl
set_option maxRecDepth 10000 in
set_option maxHeartbeats 2000000 in
theorem rmNew_ok (crew : Int) (seed : By) (hs : seed.length ≤ 1000) (m u k : Int) : Fn0 Tryz.prog 12 [.v (.int .i64 crew), keyD seed m u, .v (.int .i64 k)] (rmT (newP crew seed m u k)) := by
 have h38 := isCrew_ok crew
 have h29 := public8_ok seed hs m u
 unfold newP
 refine Fun.of_wp (pn := noPn) Tryz.tab Tryz.func12 rfl fun β0 => ?_
 simp only [Tryz.f12]
 repeat(first|apply wG|(apply wR;simp -dsimp [keyD, slB])|refine aI ?_)
 refine vcStop.call0 Tryz.body38 h38 rfl rfl (by simp) ?_
 simp -dsimp
 repeat(first|apply wG|(apply wR;simp -dsimp)|refine aI ?_)
 by_cases hc : 0 ≤ crew ∧ crew < 32
 ·rw [if_pos hc]
  refine cF (by simp; omega) ?_
  refine WP.skip ?_
  simp -dsimp
  by_cases hk : keyV seed m u = true
  ·rw [if_pos hk]
   obtain ⟨d, hd, h32⟩ := pblR_yes hk
   rw [hd, dD] at h29
   have ld := bys_len d
   have h1 := bys_oneD d
   repeat(first|apply wG|(apply wR;simp -dsimp [slB])|refine aI ?_)
   refine vcStop.call0 Tryz.body29 h29 rfl rfl (by simp [keyD, slB]) ?_
   simp -dsimp
   repeat(first|apply wG|(apply wR;simp -dsimp [ld, h32, setL_whole])|refine aI ?_)
   refine cF (by simp) ?_
   refine WP.skip ?_
   simp -dsimp
   by_cases hn : 1 ≤ k ∧ k ≤ 4096
   ·rw [if_pos hn]
    obtain ⟨n, rfl⟩ : ∃ n : Nat, k = n := ⟨k.toNat, by omega⟩
    have h39 := dkNew_ok n (by omega) (by omega)
    have hz : List.replicate n (List.replicate 128 (0 : UInt8)) = zeS n := rfl
    have hzl : (zeS n).length = n := by simp [zeS]
    rw [hz] at h39
    have hdb : dkB ⟨zeS n, [], -1, false⟩ = true := dkB_iff.2 ⟨⟨by simp only [hzl]; omega, by simp only [hzl]; omega, Nat.zero_le _, by simp, by simp⟩, (fun _ h => by cases h), fun b hb => by rw [(List.mem_replicate.1 hb).2]; simp⟩
    have h40 := open_ok4 ⟨zeS n, [], -1, false⟩ (dkB_ok hdb)
    rw [opnP, if_pos hdb, if_neg (by simp), if_neg (by simp)] at h40
    simp only [recs_zeS, hzl] at h40
    rw [dkD, dkC] at h39 h40
    rw [logD, lgC] at h40
    rw [Int.toNat_natCast, mkR, recs_zeS, hzl]
    repeat(first|apply wG|(apply wR;simp -dsimp)|refine aI ?_)
    refine vcStop.call0 Tryz.body39 h39 rfl rfl (by simp) ?_
    simp -dsimp
    repeat(first|apply wG|(apply wR;simp -dsimp)|refine aI ?_)
    refine cF (by simp) ?_
    refine WP.skip ?_
    simp -dsimp
    repeat(first|apply wG|(apply wR;simp -dsimp)|refine aI ?_)
    refine vcStop.call0 Tryz.body40 h40 rfl rfl (by simp) ?_
    simp -dsimp
    repeat(first|apply wG|(apply wR;simp -dsimp)|refine aI ?_)
    refine WP.ret (finQ.retE ?_)
    simp -dsimp [rmT, rmD, rmC, slB, onL, sgC, lsB, hzl]
   ·rw [if_neg hn]
    have h39 := dkNew_no k hn
    repeat(first|apply wG|(apply wR;simp -dsimp)|refine aI ?_)
    refine vcStop.call0 Tryz.body39 h39 rfl rfl (by simp) ?_
    simp -dsimp [dkD, dkC]
    repeat(first|apply wG|(apply wR;simp -dsimp [dkD, dkC])|refine aI ?_)
    refine cT (by simp) ?_
    repeat(first|apply wG|(apply wR;simp -dsimp)|refine aI ?_)
    refine WP.ret (finQ.retE ?_)
    simp -dsimp [rmT, rmD_ze]
  ·rw [if_neg hk]
   rw [pblR_no hk, dD] at h29
   have ld := bys_len z32
   have h32 : z32.length = 32 := rfl
   have h1 := bys_oneD z32
   repeat(first|apply wG|(apply wR;simp -dsimp [slB])|refine aI ?_)
   refine vcStop.call0 Tryz.body29 h29 rfl rfl (by simp [keyD, slB]) ?_
   simp -dsimp
   repeat(first|apply wG|(apply wR;simp -dsimp [ld, h32, setL_whole])|refine aI ?_)
   refine cT (by simp) ?_
   repeat(first|apply wG|(apply wR;simp -dsimp)|refine aI ?_)
   refine WP.ret (finQ.retE ?_)
   simp -dsimp [rmT, rmD_ze]
 ·rw [if_neg hc]
  refine cT (by simp; omega) ?_
  repeat(first|apply wG|(apply wR;simp -dsimp)|refine aI ?_)
  refine WP.ret (finQ.retE ?_)
  simp -dsimp [rmT, rmD_ze]
end Go.Proofs.YtfgcgagcpnbgmaaGreatDoor
set_option linter.unusedVariables false
set_option linter.unusedSimpArgs false
set_option linter.unusedSectionVars false
namespace Go.Proofs.YtfgcgagcpnbgmaaGreatDoor
open Go.Xe Go.RowKit
set_option maxRecDepth 10000 in
set_option maxHeartbeats 4000000 in
theorem rmRes_ok (r : Rm) (h : rmOk r) : Fn0 Tryz.prog 23 [rmD r] (rmT (resP r)) := by
 have h38 := isCrew_ok r.crew
 have h29 := public8_ok r.seed h.sd r.many 0
 have h64 := dkRes_ok r.dk
 have hdo : dkOk ⟨r.dk.s, [], -1, false⟩ := ⟨h.dk.ns, Nat.zero_le _, by simp [isI]⟩
 have h40 := open_ok4 ⟨r.dk.s, [], -1, false⟩ hdo
 unfold resP
 refine Fun.of_wp (pn := noPn) Tryz.tab Tryz.func23 rfl fun β0 => ?_
 simp only [Tryz.f23]
 repeat(first|apply wG|(apply wR;simp -dsimp [rmD, rmC])|refine aI ?_)
 refine vcStop.call0 Tryz.body38 h38 rfl rfl (by simp) ?_
 simp -dsimp
 repeat(first|apply wG|(apply wR;simp -dsimp)|refine aI ?_)
 by_cases hc : 0 ≤ r.crew ∧ r.crew < 32
 ·rw [if_pos hc]
  refine cF (by simp; omega) ?_
  refine WP.skip ?_
  simp -dsimp
  by_cases hk : keyV r.seed r.many 0 = true
  ·rw [if_pos hk]
   obtain ⟨d, hd, h32⟩ := pblR_yes hk
   rw [hd, dD] at h29
   have ld := bys_len d
   have h1 := bys_oneD d
   repeat(first|apply wG|(apply wR;simp -dsimp [slB])|refine aI ?_)
   refine vcStop.call0 Tryz.body29 h29 rfl rfl (by simp [keyD, slB]) ?_
   simp -dsimp
   repeat(first|apply wG|(apply wR;simp -dsimp [ld, h32, setL_whole])|refine aI ?_)
   refine cF (by simp) ?_
   refine WP.skip ?_
   simp -dsimp
   repeat(first|apply wG|(apply wR;simp -dsimp)|refine aI ?_)
   refine vcStop.call0 Tryz.body64 h64 rfl rfl (by simp [dkD, dkC]) ?_
   simp -dsimp [dkD, dkC]
   repeat(first|apply wG|(apply wR;simp -dsimp)|refine aI ?_)
   by_cases hb : dkB ⟨r.dk.s, [], -1, false⟩ = true
   ·rw [if_pos hb]
    rw [opnP, if_pos hb, if_neg (by simp), if_neg (by simp)] at h40
    simp only at h40
    have hdd := dkB_iff.1 hb
    have hrl := recs_used' hdd.2.2
    have hsm := recs_small hdd.2.2 hdd.1.2.1
    have hsl := hdd.1.2.1
    simp only at hrl hsl hsm
    have h65 := signed44_ok r.crew r.seed r.many 0 r.dk.s.length (recs r.dk.s) (recs r.dk.s).length hk (by omega) (fun b hb => by have := hsm b hb; omega)
    unfold sgnL at h65
    rw [dkD, dkC] at h40
    rw [logD, lgC] at h40 h65
    refine vcStop.call0 Tryz.body40 h40 rfl rfl (by simp) ?_
    simp -dsimp
    repeat(first|apply wG|(apply wR;simp -dsimp)|refine aI ?_)
    refine cF (by simp) ?_
    refine WP.skip ?_
    simp -dsimp
    repeat(first|apply wG|(apply wR;simp -dsimp)|refine aI ?_)
    refine vcStop.call0 Tryz.body65 h65 rfl rfl (by simp [keyD, slB]) ?_
    cases hon : onB r.crew r.many 0 (recs r.dk.s) with
    | true =>
     rw [if_pos rfl, if_pos rfl]
     simp -dsimp
     repeat(first|apply wG|(apply wR;simp -dsimp)|refine aI ?_)
     refine cF (by simp) ?_
     refine WP.skip ?_
     simp -dsimp
     repeat(first|apply wG|(apply wR;simp -dsimp)|refine aI ?_)
     refine WP.ret (finQ.retE ?_)
     simp -dsimp [rmT, rmD, rmC, slB, mkR, onL_len]
    | false =>
     rw [if_neg (by decide), if_neg (by decide)]
     simp -dsimp
     repeat(first|apply wG|(apply wR;simp -dsimp)|refine aI ?_)
     refine cT (by simp) ?_
     repeat(first|apply wG|(apply wR;simp -dsimp)|refine aI ?_)
     refine WP.ret (finQ.retE ?_)
     simp -dsimp [rmT, rmD_ze]
   ·rw [if_neg hb]
    rw [opnP, if_neg hb] at h40
    simp only at h40
    rw [dkD, dkC] at h40
    refine vcStop.call0 Tryz.body40 h40 rfl rfl (by simp) ?_
    simp -dsimp [logD, lgC]
    repeat(first|apply wG|(apply wR;simp -dsimp [logD, lgC])|refine aI ?_)
    refine cT (by simp) ?_
    repeat(first|apply wG|(apply wR;simp -dsimp)|refine aI ?_)
    refine WP.ret (finQ.retE ?_)
    simp -dsimp [rmT, rmD_ze]
  ·rw [if_neg hk]
   rw [pblR_no hk, dD] at h29
   have ld := bys_len z32
   have h32 : z32.length = 32 := rfl
   have h1 := bys_oneD z32
   repeat(first|apply wG|(apply wR;simp -dsimp [slB])|refine aI ?_)
   refine vcStop.call0 Tryz.body29 h29 rfl rfl (by simp [keyD, slB]) ?_
   simp -dsimp
   repeat(first|apply wG|(apply wR;simp -dsimp [ld, h32, setL_whole])|refine aI ?_)
   refine cT (by simp) ?_
   repeat(first|apply wG|(apply wR;simp -dsimp)|refine aI ?_)
   refine WP.ret (finQ.retE ?_)
   simp -dsimp [rmT, rmD_ze]
 ·rw [if_neg hc]
  refine cT (by simp; omega) ?_
  repeat(first|apply wG|(apply wR;simp -dsimp)|refine aI ?_)
  refine WP.ret (finQ.retE ?_)
  simp -dsimp [rmT, rmD_ze]
end Go.Proofs.YtfgcgagcpnbgmaaGreatDoor
