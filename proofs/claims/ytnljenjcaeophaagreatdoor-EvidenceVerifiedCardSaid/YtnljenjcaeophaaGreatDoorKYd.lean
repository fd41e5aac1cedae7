/-
  Evidence: EvidenceVerified, walked.
-/
import Derived.Test.YtnljenjcaeophaaGreatDoorKOA
import Derived.Test.YtnljenjcaeophaaGreatDoorKAB
import Derived.Test.YtnljenjcaeophaaGreatDoorKUk
import Derived.Test.YtnljenjcaeophaaGreatDoorKR
set_option maxRecDepth 10000
set_option linter.unusedVariables false
set_option linter.unusedSimpArgs false
set_option linter.unusedSectionVars false
namespace Go.Proofs.YtnljenjcaeophaaGreatDoor
open Go.Xe Go.RowKit
abbrev fcS (l : List Crw) (i : Nat) : St := mkS 23 [(0, .d (crwD l)), (5, .d (crwD l)), (6, .d (.v (.int .i64 l.length))), (7, .d (.v (.int .i64 i)))] []
def fewK (c : Crw) : Bool := !(decide (16 < c.2) && decide (c.2 ≤ 4096))
def fewC (l : List Crw) : Bool := l.all fewK && decide ((l.length : Int) ≤ 4)
theorem fewC_ok (l : List Crw) (hl : ∀ c ∈ l, crOk c) (hn : l.length ≤ 10000000000000) : Fn0 Tryz.prog 12 [crwD l] (.v (.bool (fewC l))) := by
 refine Fun.of_wp (pn := noPn) Tryz.tab Tryz.func12 rfl fun β0 => ?_
 simp only [Tryz.f12]
 repeat(first|apply wG|(apply wR;simp -dsimp [crwD])|refine aI ?_)
 refine WP.loopWk (fun q S => ∃ l1 l2, l = l1 ++ l2 ∧ q = l2.length ∧ l1.all fewK = true ∧ S = fcS l l1.length) l.length (S0 := fcS l 0) (Wk.lessE [] (by simp [crwD]) (by simp)) ⟨[], l, rfl, rfl, rfl, rfl⟩ ?_
 rintro _ _ ⟨l1, l2, hl12, rfl, ha, rfl⟩
 simp -dsimp [crwD]
 repeat(first|apply wG|(apply wR;simp -dsimp)|refine aI ?_)
 cases l2 with
 | nil =>
  simp only [List.append_nil] at hl12
  subst hl12
  refine cF (by simp) ?_
  refine WP.exit ?_
  simp -dsimp
  repeat(first|apply wG|(apply wR;simp -dsimp)|refine aI ?_)
  refine WP.ret (finQ.retE ?_)
  simp -dsimp [fewC, ha]
 | cons c l2 =>
  have hll : l.length = l1.length + (l2.length + 1) := by rw [hl12]; simp
  have hc := hl c (by rw [hl12]; simp)
  have hat := crC_at (l1 := l1) (c := c) (l2 := l2) (by rw [← hl12]; exact hl)
  rw [← hl12] at hat
  have e1 : IntKind.i64.wrap ((l1.length : Int) + 1) = (l1.length : Int) + 1 := IntWalk.i64_in _ (by omega)
  have hcl := crX_len hc
  have hm := crX_atL hc
  have ht33 : List.take 33 (crX c) = crX c := List.take_of_length_le (by omega)
  have hcc := crC_len hl
  have hlt : l1.length < l.length := by omega
  have hce : (crX c)[32]'(by omega) = .v (.int .i64 c.2) := by
   have h := crX_m hc
   rw [List.getElem?_eq_getElem (by omega)] at h
   exact Option.some.inj h
  refine cT (by simp; omega) ?_
  refine WP.skip ?_
  simp -dsimp
  repeat(first|apply wG|(apply wR;simp -dsimp [hat, hcl, hlt, ht33])|refine aI ?_)
  refine And.intro (fun a h => crX_one h) ?_
  repeat(first|apply wG|(apply wR;simp -dsimp [hcl, hm, hce])|refine aI ?_)
  by_cases hb : fewK c = true
  ·refine cF (by simp [fewK] at hb; simp; omega) ?_
   refine WP.skip ?_
   simp -dsimp
   repeat(first|apply wG|(apply wR;simp -dsimp)|refine aI ?_)
   refine loopW.next (fcS l (l1 ++ [c]).length) (Wk.lessE [] (by simp [crwD, e1]) (by simp)) l2.length (by simp) ⟨l1 ++ [c], l2, by simp [hl12], rfl, by rw [List.all_append, ha]; simp [hb], rfl⟩
  ·have hb : fewK c = false := by simpa using hb
   refine cT (by simp [fewK] at hb; simp; omega) ?_
   have hf : fewC l = false := by rw [fewC, hl12, List.all_append, List.all_cons, hb]; simp
   repeat(first|apply wG|(apply wR;simp -dsimp)|refine aI ?_)
   refine WP.ret (finQ.retE ?_)
   simp -dsimp [hf]
theorem fewC_4 {l : List Crw} (h : fewC l = true) : l.length ≤ 4 := by
 rw [fewC, Bool.and_eq_true, decide_eq_true_eq] at h
 omega
theorem sgU_sgF {p : Sg} (h : sgU p) : sgF p := by
 obtain ⟨k, op, cl, pa, e, h, _⟩ := h
 exact ⟨k, 32, op.length, 32, cl.length, 32, pa.length, dgL op, dgL cl, dgL pa, h, e⟩
theorem sgU_TB {p : Sg} (h : sgU p) (hs : shrtB p = true) : sgT p := by
 refine sgU_T h ?_
 obtain ⟨k, op, cl, pa, e, _⟩ := h
 rw [shrtB, e] at hs
 rw [shrtT, e]
 exact hs
theorem few_sgT {l : List Sg} (h : fewB l = true) (hu : ∀ p ∈ l, sgU p) : ∀ p ∈ l, sgT p := fun p hp => by
 rw [fewB, Bool.and_eq_true, Bool.and_eq_true] at h
 exact sgU_TB (hu p hp) (List.all_eq_true.1 h.2.2 p hp)
theorem few_ten {l : List Sg} (h : fewB l = true) : l.length ≤ 10 ∧ ∀ p ∈ l, p.1 1 ≤ 200 := by
 simp only [fewB, Bool.and_eq_true, List.all_eq_true, decide_eq_true_eq] at h
 exact ⟨h.2.1, fun p hp => by have := h.1 p hp; simpa [noB] using this⟩
theorem fnd_in {a b : List Sg} (hf : ∀ p ∈ a ++ b, fOk p.1) {r : R2} {q : Sg × Sg} (h : fndO a b r = some q) : q.1 ∈ a ++ b ∧ q.2 ∈ a ++ b := by
 obtain ⟨q1, q2⟩ := q
 obtain ⟨h1, h2, _⟩ := two_ok hf h
 exact ⟨fstO_in h1, fstO_in h2⟩
abbrev vdS (l : List Crw) (a b : List Sg) (al : List R2) (i : Nat) : St := mkS 73 [(0, .d (crwD l)), (4, .ptr 4 0), (5, .ptr 5 0), (52, .d (slR al)), (53, .d (.v (.int .i64 al.length))), (54, .d (.v (.int .i64 i)))] [(4, .cells 25 [.d (sgD a false)]), (5, .cells 25 [.d (sgD b false)])]
set_option maxHeartbeats 8000000 in
theorem law_verified (l : List Crw) (a b : List Sg) (hl : ∀ c ∈ l, crOk c) (hn : l.length ≤ 10000000000000) (ha : ∀ p ∈ a, sgOk p) (hb : ∀ p ∈ b, sgOk p) (ua : ∀ p ∈ a, sgU p) (ub : ∀ p ∈ b, sgU p) (hna : a.length ≤ 1000000000000) (hnb : b.length ≤ 1000000000000) :
  Fn0 Tryz.prog 10 [crwD l, lgD a false, lgD b false] (.v (.bool true)) := by
 have h12 := fewC_ok l hl hn
 have hfa := few_ok a false ha (fun p hp => sgU_sgF (ua p hp)) hna
 have hfb := few_ok b false hb (fun p hp => sgU_sgF (ub p hp)) hnb
 refine Fun.of_wp (pn := noPn) Tryz.tab Tryz.func10 rfl fun β0 => ?_
 simp only [Tryz.f10]
 repeat(first|apply wG|(apply wR;simp -dsimp [crwD])|refine aI ?_)
 refine vcStop.call0 Tryz.body11 sane_ok rfl rfl (by simp) ?_
 simp -dsimp
 repeat(first|apply wG|(apply wR;simp -dsimp)|refine aI ?_)
 refine cF (by simp) ?_
 refine WP.skip ?_
 simp -dsimp
 repeat(first|apply wG|(apply wR;simp -dsimp)|refine aI ?_)
 refine vcStop.call0 Tryz.body12 h12 rfl rfl (by simp [crwD]) ?_
 cases hwc : fewC l with
 | false =>
  simp -dsimp
  repeat(first|apply wG|(apply wR;simp -dsimp)|refine aI ?_)
  refine vcStopG.skip (.d (.v (.bool false))) ?_
  simp -dsimp
  repeat(first|apply wG|(apply wR;simp -dsimp)|refine aI ?_)
  refine vcStopG.skip (.d (.v (.bool false))) ?_
  simp -dsimp
  repeat(first|apply wG|(apply wR;simp -dsimp)|refine aI ?_)
  refine vcStopG.skip (.d (.v (.int .i64 0))) ?_
  simp -dsimp
  repeat(first|apply wG|(apply wR;simp -dsimp)|refine aI ?_)
  refine vcStopG.skip (.d (.v (.int .i64 0))) ?_
  simp -dsimp
  repeat(first|apply wG|(apply wR;simp -dsimp)|refine aI ?_)
  refine cT (by simp) ?_
  repeat(first|apply wG|(apply wR;simp -dsimp)|refine aI ?_)
  refine WP.ret (finQ.retE ?_)
  simp -dsimp
 | true =>
  simp -dsimp
  repeat(first|apply wG|(apply wR;simp -dsimp)|refine aI ?_)
  refine vcStopG.call0L Tryz.body13 (fun _ => hfa) rfl (fun _ => rfl) (fun _ => And.intro (Leq.aggD [sgD a false]) trivial) ?_
  cases hwa : fewB a with
  | false =>
   simp -dsimp
   repeat(first|apply wG|(apply wR;simp -dsimp)|refine aI ?_)
   refine vcStopG.skip (.d (.v (.bool false))) ?_
   simp -dsimp
   repeat(first|apply wG|(apply wR;simp -dsimp)|refine aI ?_)
   refine vcStopG.skip (.d (.v (.int .i64 0))) ?_
   simp -dsimp
   repeat(first|apply wG|(apply wR;simp -dsimp)|refine aI ?_)
   refine vcStopG.skip (.d (.v (.int .i64 0))) ?_
   simp -dsimp
   repeat(first|apply wG|(apply wR;simp -dsimp)|refine aI ?_)
   refine cT (by simp) ?_
   repeat(first|apply wG|(apply wR;simp -dsimp)|refine aI ?_)
   refine WP.ret (finQ.retE ?_)
   simp -dsimp
  | true =>
   simp -dsimp
   repeat(first|apply wG|(apply wR;simp -dsimp)|refine aI ?_)
   refine vcStopG.call0L Tryz.body13 (fun _ => hfb) rfl (fun _ => rfl) (fun _ => And.intro (Leq.aggD [sgD b false]) trivial) ?_
   cases hwb : fewB b with
   | false =>
    simp -dsimp
    repeat(first|apply wG|(apply wR;simp -dsimp)|refine aI ?_)
    refine vcStopG.skip (.d (.v (.int .i64 0))) ?_
    simp -dsimp
    repeat(first|apply wG|(apply wR;simp -dsimp)|refine aI ?_)
    refine vcStopG.skip (.d (.v (.int .i64 0))) ?_
    simp -dsimp
    repeat(first|apply wG|(apply wR;simp -dsimp)|refine aI ?_)
    refine cT (by simp) ?_
    repeat(first|apply wG|(apply wR;simp -dsimp)|refine aI ?_)
    refine WP.ret (finQ.retE ?_)
    simp -dsimp
   | true =>
    have hl4 := fewC_4 hwc
    obtain ⟨hla, hnoa⟩ := few_ten hwa
    obtain ⟨hlb, hnob⟩ := few_ten hwb
    have ta := few_sgT hwa ua
    have tb := few_sgT hwb ub
    by_cases h44 : a.length ≤ 4 ∧ b.length ≤ 4
    ·have d1 : decide ((4 : Int) < (a.length : Int)) = false := by rw [decide_eq_false_iff_not]; omega
     have d2 : decide ((4 : Int) < (b.length : Int)) = false := by rw [decide_eq_false_iff_not]; omega
     have hca := ledgerCheck_ok l hl (by omega) a false (fun p hp => ⟨(ha p hp).1, ta p hp⟩) hna
     have hcb := ledgerCheck_ok l hl (by omega) b false (fun p hp => ⟨(hb p hp).1, tb p hp⟩) hnb
     simp -dsimp [d1, d2]
     repeat(first|apply wG|(apply wR;simp -dsimp [d1, d2])|refine aI ?_)
     refine vcStopG.call0L Tryz.body21 (fun _ => hca) rfl (fun _ => rfl) (fun _ => And.intro (by simp [crwD]) (And.intro (Leq.aggD [sgD a false]) trivial)) ?_
     by_cases ka : lchk l a = 0
     ·rw [ka]
      simp -dsimp [d1, d2]
      repeat(first|apply wG|(apply wR;simp -dsimp [d1, d2])|refine aI ?_)
      refine vcStopG.call0L Tryz.body21 (fun _ => hcb) rfl (fun _ => rfl) (fun _ => And.intro (by simp [crwD]) (And.intro (Leq.aggD [sgD b false]) trivial)) ?_
      by_cases kb : lchk l b = 0
      ·rw [kb]
       simp -dsimp
       repeat(first|apply wG|(apply wR;simp -dsimp)|refine aI ?_)
       refine cF (by simp) ?_
       refine WP.skip ?_
       simp -dsimp
       repeat(first|apply wG|(apply wR;simp -dsimp)|refine aI ?_)
       have fa : ∀ p ∈ a, fOk p.1 := fun p hp => (ha p hp).1
       have fb : ∀ p ∈ b, fOk p.1 := fun p hp => (hb p hp).1
       have fab : ∀ p ∈ a ++ b, fOk p.1 := fun p hp => by
        rcases List.mem_append.1 hp with h | h
        ·exact fa p h
        ·exact fb p h
       have tab : ∀ p ∈ a ++ b, sgT p := fun p hp => by
        rcases List.mem_append.1 hp with h | h
        ·exact ta p h
        ·exact tb p h
       have hA := vF_fOk fa
       have hB := vF_fOk fb
       refine vcStop.call0L Tryz.body15 (altered_ok a b false false (by omega) (by omega) ha hb) rfl rfl (And.intro (Leq.aggD [sgD a false]) (And.intro (Leq.aggD [sgD b false]) trivial)) ?_
       have hal := altL_len (vF a) (vF b)
       have haI : ∀ r ∈ altL (vF a) (vF b), isI r.1 ∧ isI r.2 := fun r hr => alt_isI hA hB hr
       have hva := vF_len a
       generalize altL (vF a) (vF b) = al at hal haI
       simp -dsimp
       repeat(first|apply wG|(apply wR;simp -dsimp)|refine aI ?_)
       refine WP.loopWk (fun m S => ∃ j : Nat, m = al.length - j ∧ j ≤ al.length ∧ S = vdS l a b al j) al.length (S0 := vdS l a b al 0) (Wk.lessE [] (by simp [crwD]) (by simp)) ⟨0, rfl, by omega, rfl⟩ ?_
       rintro m _ ⟨j, rfl, hj, rfl⟩
       simp -dsimp [crwD]
       repeat(first|apply wG|(apply wR;simp -dsimp)|refine aI ?_)
       by_cases hjl : j < al.length
       ·have hatj := rfC_at (x := al) (i := j) hjl
        obtain ⟨r1, r2⟩ := haI al[j] (List.getElem_mem hjl)
        generalize al[j] = r at hatj r1 r2
        have lr := rfC_len al
        have ej : IntKind.i64.wrap ((j : Int) + 1) = ((j + 1 : Nat) : Int) := by rw [IntWalk.i64_in _ (by omega)]; omega
        obtain ⟨hq1, hq2⟩ := fndR_ok ha hb r
        have fl := fkc_len hq1 hq2
        have fo := fkc_one hq1 hq2
        have hfi := find_ok a b false false r ha hb (by omega) r1 r2
        refine cT (by simp; omega) ?_
        refine WP.skip ?_
        cases hfo : fndO a b r with
        | none =>
         rw [hfo] at hfi
         simp -dsimp
         repeat(first|apply wG|(apply wR;simp -dsimp [hatj])|refine aI ?_)
         refine vcStop.call0L Tryz.body41 hfi rfl rfl (And.intro (Leq.aggD [sgD a false]) (And.intro (Leq.aggD [sgD b false]) (And.intro (Leq.aggD [.v (.int .i64 r.1), .v (.int .i64 r.2)]) trivial))) ?_
         simp -dsimp [fl]
         repeat(first|apply wG|(apply wR;simp -dsimp [fl])|refine aI ?_)
         refine vcStopG.skip (.d (.v (.int .i64 0))) ?_
         simp -dsimp
         repeat(first|apply wG|(apply wR;simp -dsimp)|refine aI ?_)
         refine cF (by simp) ?_
         refine WP.skip ?_
         simp -dsimp
         repeat(first|apply wG|(apply wR;simp -dsimp)|refine aI ?_)
         refine loopW.next (vdS l a b al (j + 1)) (Wk.lessE [8, 9] (by simp [ej, crwD]) (by simp)) (al.length - (j + 1)) (by omega) ⟨j + 1, rfl, by omega, rfl⟩
        | some q =>
         have hfr : fndR a b r = q := by rw [fndR, hfo]; rfl
         have hin := fnd_in fab hfo
         have hfk := fork_ok l hl (by omega) q (fab _ hin.1) (fab _ hin.2) (tab _ hin.1) (tab _ hin.2)
         rw [fnd_fork fa fb ka kb hfo] at hfk
         rw [hfo, hfr] at hfi
         rw [hfr] at fl fo
         have ftm : List.take 122 ((fkc q).map AV.d) = (fkc q).map .d := List.take_of_length_le (by rw [List.length_map]; omega)
         simp -dsimp
         repeat(first|apply wG|(apply wR;simp -dsimp [hatj])|refine aI ?_)
         refine vcStop.call0L Tryz.body41 hfi rfl rfl (And.intro (Leq.aggD [sgD a false]) (And.intro (Leq.aggD [sgD b false]) (And.intro (Leq.aggD [.v (.int .i64 r.1), .v (.int .i64 r.2)]) trivial))) ?_
         simp -dsimp [fl]
         repeat(first|apply wG|(apply wR;simp -dsimp [fl])|refine aI ?_)
         refine vcStopG.call0L Tryz.body42 (fun _ => hfk) rfl (fun _ => rfl) (fun _ => And.intro (by simp [crwD]) (And.intro (by simp [fl, ftm]; try exact Leq.aggD _) trivial)) ?_
         simp -dsimp
         repeat(first|apply wG|(apply wR;simp -dsimp)|refine aI ?_)
         refine cF (by simp) ?_
         refine WP.skip ?_
         simp -dsimp
         repeat(first|apply wG|(apply wR;simp -dsimp)|refine aI ?_)
         refine loopW.next (vdS l a b al (j + 1)) (Wk.lessE [8, 9] (by simp [ej, crwD]) (by simp)) (al.length - (j + 1)) (by omega) ⟨j + 1, rfl, by omega, rfl⟩
       ·refine cF (by simp; omega) ?_
        refine WP.exit ?_
        simp -dsimp
        repeat(first|apply wG|(apply wR;simp -dsimp)|refine aI ?_)
        refine WP.ret (finQ.retE ?_)
        simp -dsimp
      ·have dk : decide (lchk l b = 0) = false := decide_eq_false kb
       simp -dsimp [dk]
       repeat(first|apply wG|(apply wR;simp -dsimp [dk])|refine aI ?_)
       refine cT (by simp [kb]) ?_
       repeat(first|apply wG|(apply wR;simp -dsimp)|refine aI ?_)
       refine WP.ret (finQ.retE ?_)
       simp -dsimp
     ·have dk : decide (lchk l a = 0) = false := decide_eq_false ka
      simp -dsimp [dk]
      repeat(first|apply wG|(apply wR;simp -dsimp [dk])|refine aI ?_)
      refine vcStopG.skip (.d (.v (.int .i64 0))) ?_
      simp -dsimp [dk]
      repeat(first|apply wG|(apply wR;simp -dsimp [dk])|refine aI ?_)
      refine cT (by simp [ka]) ?_
      repeat(first|apply wG|(apply wR;simp -dsimp)|refine aI ?_)
      refine WP.ret (finQ.retE ?_)
      simp -dsimp
    ·by_cases h4a : a.length ≤ 4
     ·have d1 : decide ((4 : Int) < (a.length : Int)) = false := by rw [decide_eq_false_iff_not]; omega
      have d2 : decide ((4 : Int) < (b.length : Int)) = true := by rw [decide_eq_true_iff]; omega
      simp -dsimp [d1, d2]
      repeat(first|apply wG|(apply wR;simp -dsimp [d1, d2])|refine aI ?_)
      refine vcStopG.skip (.d (.v (.int .i64 0))) ?_
      simp -dsimp [d1, d2]
      repeat(first|apply wG|(apply wR;simp -dsimp [d1, d2])|refine aI ?_)
      refine vcStopG.skip (.d (.v (.int .i64 0))) ?_
      simp -dsimp [d1, d2]
      repeat(first|apply wG|(apply wR;simp -dsimp [d1, d2])|refine aI ?_)
      refine cT (by simp) ?_
      repeat(first|apply wG|(apply wR;simp -dsimp)|refine aI ?_)
      refine WP.ret (finQ.retE ?_)
      simp -dsimp
     ·have d1 : decide ((4 : Int) < (a.length : Int)) = true := by rw [decide_eq_true_iff]; omega
      simp -dsimp [d1]
      repeat(first|apply wG|(apply wR;simp -dsimp [d1])|refine aI ?_)
      refine vcStopG.skip (.d (.v (.int .i64 0))) ?_
      simp -dsimp [d1]
      repeat(first|apply wG|(apply wR;simp -dsimp [d1])|refine aI ?_)
      refine vcStopG.skip (.d (.v (.int .i64 0))) ?_
      simp -dsimp [d1]
      repeat(first|apply wG|(apply wR;simp -dsimp [d1])|refine aI ?_)
      refine cT (by simp) ?_
      repeat(first|apply wG|(apply wR;simp -dsimp)|refine aI ?_)
      refine WP.ret (finQ.retE ?_)
      simp -dsimp
end Go.Proofs.YtnljenjcaeophaaGreatDoor
