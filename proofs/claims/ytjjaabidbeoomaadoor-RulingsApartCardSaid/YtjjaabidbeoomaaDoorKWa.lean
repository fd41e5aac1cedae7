/-
  RulingsApart: what is said of one case says nothing of another.
-/
import Derived.Test.YtjjaabidbeoomaaDoorKQz
set_option linter.unusedSectionVars false
set_option linter.unusedSimpArgs false
set_option linter.unusedVariables false
namespace Go.Proofs.YtjjaabidbeoomaaDoor
open Go.Xe Go.RowKit

theorem notP_can {l : List F} (hv : ∀ f ∈ l, fOk f) (n : Int) : canF (l.filter (notP n)) = (canF l).filter (notP n) := by
  have hcan := canF_ok hv
  refine canF_of (fun f hf => hv f (List.mem_filter.1 hf).1) ⟨asc_filter hcan.asc _, fun f => ?_⟩
  rw [List.mem_filter, List.mem_filter, hcan.mem]
  exact ⟨fun ⟨⟨a, b⟩, c⟩ => ⟨⟨a, c⟩, b⟩, fun ⟨⟨a, c⟩, b⟩ => ⟨⟨a, b⟩, c⟩⟩
def apS (l : List F) (n : Int) (E : List F) (i : Nat) : St :=
  mkS 127 [(0, .d (slF l)), (1, .d (.v (.int .i64 n))), (5, .row 505), (22, .d (slF l)), (23, .d (.v (.int .i64 l.length))), (24, .d (.v (.int .i64 (i : Nat))))] [(505, rB E)]
abbrev slP (a k : Nat) (l : List F) : D := .sl k (prt a k l) l.length false
def apS2 (l R A : List F) (n : Int) (E : List F) (i : Nat) : St :=
  mkS 127 [(0, .d (slF l)), (1, .d (.v (.int .i64 n))), (5, .d (slF R)), (9, .row 509), (70, .d (slP 47 6 A)), (71, .d (.v (.int .i64 A.length))), (72, .d (.v (.int .i64 (i : Nat))))] [(509, .row 43 6 E.length ((prt 47 6 E).map .d))]
def apS3 (R W A : List F) (n : Int) (E : List F) (i : Nat) : St :=
  mkS 127 [(1, .d (.v (.int .i64 n))), (5, .d (slF R)), (9, .d (slP 47 6 W)), (12, .row 512), (86, .d (slP 39 4 A)), (87, .d (.v (.int .i64 A.length))), (88, .d (.v (.int .i64 (i : Nat))))] [(512, .row 39 4 E.length ((prt 39 4 E).map .d))]
theorem filt_snoc {A : List F} {p : F → Bool} {i : Nat} (hi : i < A.length) : (A.take (i + 1)).filter p = (A.take i).filter p ++ if p A[i] = true then [A[i]] else [] := by
  rw [List.take_succ_eq_append_getElem hi, List.filter_append]; congr 1
  simp only [List.filter_cons, List.filter_nil]
set_option maxRecDepth 10000 in
set_option maxHeartbeats 4000000 in
theorem law_apart (l : List F) (n : Int) (hlen : l.length ≤ 1000000000000) (hv : ∀ f ∈ l, fOk f) (hn : isI n) : Fn0 Tryd.prog 6 [slF l, .v (.int .i64 n)] (.v (.bool true)) := by
  refine Fun.of_wp (pn := noPn) Tryd.tab Tryd.func6 rfl fun β0 => ?_
  simp only [Tryd.f6]
  repeat (first | refine WP.seq ?_ | refine WP.block ?_ | (refine WP.region Tryd.tab ?_; simp -dsimp) | (refine WP.draw Tryd.tab Tryd.mixed ?_; simp -dsimp) | refine And.intro (by first | rfl | omega | decide | (simp; done) | (simp; omega) | (intro _ h; exact fcs_side h; done) | (intros; simp_all; done) | (intros; simp_all; omega)) ?_)
  refine vcStop.call0 Tryd.body8 sane_ok rfl rfl (by simp) ?_
  simp -dsimp
  repeat (first | refine WP.seq ?_ | refine WP.block ?_ | (refine WP.region Tryd.tab ?_; simp -dsimp) | (refine WP.draw Tryd.tab Tryd.mixed ?_; simp -dsimp) | refine And.intro (by first | rfl | omega | decide | (simp; done) | (simp; omega) | (intro _ h; exact fcs_side h; done) | (intros; simp_all; done) | (intros; simp_all; omega)) ?_)
  refine WP.cond (b := false) (by simp) (fun h => by cases h) (fun _ => ?_)
  refine WP.skip ?_
  simp -dsimp
  repeat (first | refine WP.seq ?_ | refine WP.block ?_ | (refine WP.region Tryd.tab ?_; simp -dsimp) | (refine WP.draw Tryd.tab Tryd.mixed ?_; simp -dsimp) | refine And.intro (by first | rfl | omega | decide | (simp; done) | (simp; omega) | (intro _ h; exact fcs_side h; done) | (intros; simp_all; done) | (intros; simp_all; omega)) ?_)
  refine WP.cond (b := decide (16 < l.length)) (by simp; omega) (fun hk => ?_) (fun hk => ?_)
  · repeat (first | refine WP.seq ?_ | refine WP.block ?_ | (refine WP.region Tryd.tab ?_; simp -dsimp) | (refine WP.draw Tryd.tab Tryd.mixed ?_; simp -dsimp) | refine And.intro (by first | rfl | omega | decide | (simp; done) | (simp; omega) | (intro _ h; exact fcs_side h; done) | (intros; simp_all; done) | (intros; simp_all; omega)) ?_)
    refine WP.ret (finQ.retE ?_)
    simp -dsimp
  have hk := of_decide_eq_false hk
  have hl16 : l.length ≤ 16 := by omega
  refine WP.skip ?_
  simp -dsimp
  repeat (first | refine WP.seq ?_ | refine WP.block ?_ | (refine WP.region Tryd.tab ?_; simp -dsimp) | (refine WP.draw Tryd.tab Tryd.mixed ?_; simp -dsimp) | refine And.intro (by first | rfl | omega | decide | (simp; done) | (simp; omega) | (intro _ h; exact fcs_side h; done) | (intros; simp_all; done) | (intros; simp_all; omega)) ?_)
  refine WP.loopWk (fun m S => ∃ i, i + m = l.length ∧ S = apS l n ((l.take i).filter (notP n)) i) l.length (S0 := apS l n [] 0)
    (Wk.trans (Wk.lessE [] (S' := mkS 127 [(0, .d (slF l)), (1, .d (.v (.int .i64 n))), (5, .d nilD), (22, .d (slF l)), (23, .d (.v (.int .i64 l.length))), (24, .d (.v (.int .i64 0)))] []) (by simp) (by simp)) (Wk.trans (Wk.nilSlot 5 505 49 57 (by simp) (by simp)) (Wk.lessE [] (by simp [apS]) (by simp [apS, fsC0])))) ⟨0, by omega, rfl⟩ ?_
  rintro m _ ⟨i, him, rfl⟩
  by_cases hi : i < l.length
  · have h1 := fsC_at hi
    have hE2 := filt_snoc (p := notP n) hi
    have hfat : fat l i = l[i] := by rw [fat, getD_at hi]
    rw [hfat] at h1
    have e1 : IntKind.i64.wrap ((i : Int) + 1) = ((i + 1 : Nat) : Int) := by rw [IntWalk.i64_in _ (by omega)]; omega
    generalize l[i] = f at h1 hE2
    have hEl : ((l.take i).filter (notP n)).length ≤ 16 := Nat.le_trans (List.length_filter_le _ _) (by rw [List.length_take]; omega)
    generalize (l.take i).filter (notP n) = E at hEl hE2
    rw [apS]
    simp -dsimp
    repeat (first | refine WP.seq ?_ | refine WP.block ?_ | (refine WP.region Tryd.tab ?_; simp -dsimp) | (refine WP.draw Tryd.tab Tryd.mixed ?_; simp -dsimp) | refine And.intro (by first | rfl | omega | decide | (simp; done) | (simp; omega) | (intro _ h; exact fcs_side h; done) | (intros; simp_all; done) | (intros; simp_all; omega)) ?_)
    refine WP.cond (b := true) (by simp; omega) (fun _ => ?_) (fun h => by cases h)
    refine WP.skip ?_
    simp -dsimp
    refine WP.seq (WP.block ?_)
    repeat (first | refine WP.seq ?_ | refine WP.block ?_ | (refine WP.region Tryd.tab ?_; simp -dsimp [h1]) | (refine WP.draw Tryd.tab Tryd.mixed ?_; simp -dsimp [h1]) | refine And.intro (by first | rfl | omega | decide | (simp; done) | (simp; omega) | (intro _ h; exact fcs_side h; done) | (intros; simp_all; done) | (intros; simp_all; omega)) ?_)
    refine WP.cond (b := notP n f) (by simp [notP, abt]) (fun hb => ?_) (fun hb => ?_)
    · rw [if_pos hb] at hE2
      repeat (first | refine WP.seq ?_ | refine WP.block ?_ | (refine WP.region Tryd.tab ?_; simp -dsimp) | (refine WP.draw Tryd.tab Tryd.mixed ?_; simp -dsimp) | refine And.intro (by first | rfl | omega | decide | (simp; done) | (simp; omega) | (intro _ h; exact fcs_side h; done) | (intros; simp_all; done) | (intros; simp_all; omega)) ?_)
      refine loopW.next (apS l n ((l.take (i + 1)).filter (notP n)) (i + 1)) (Wk.go [7, 66, 505] 67 505 (by decide) (by simp [apS]) (by simp [apS, e1]) (by rw [hE2]; simp [apS, fsC_append, fsC])) (m - 1) (by omega) ⟨i + 1, by omega, rfl⟩
    · rw [if_neg (by simp [hb]), List.append_nil] at hE2
      refine WP.skip ?_
      simp -dsimp
      repeat (first | refine WP.seq ?_ | refine WP.block ?_ | (refine WP.region Tryd.tab ?_; simp -dsimp) | (refine WP.draw Tryd.tab Tryd.mixed ?_; simp -dsimp) | refine And.intro (by first | rfl | omega | decide | (simp; done) | (simp; omega) | (intro _ h; exact fcs_side h; done) | (intros; simp_all; done) | (intros; simp_all; omega)) ?_)
      refine loopW.next (apS l n ((l.take (i + 1)).filter (notP n)) (i + 1)) (Wk.lessE [7] (by simp [apS, e1]) (by rw [hE2]; simp [apS])) (m - 1) (by omega) ⟨i + 1, by omega, rfl⟩
  have hil : i = l.length := by omega
  subst hil
  rw [List.take_length]
  have hcv := canF_vOk hv
  have hcl := Nat.le_trans (canF_len hv) hl16
  have hRv : ∀ f ∈ l.filter (notP n), fOk f := fun f hf => hv f (List.mem_filter.1 hf).1
  have hRl : (l.filter (notP n)).length ≤ 16 := Nat.le_trans (List.length_filter_le _ _) hl16
  have a1 := all_ok l (by omega) hv
  have c1 := reports_ok l (by omega) hv
  have a2 := all_ok _ (by omega) hRv
  have c2 := reports_ok _ (by omega) hRv
  have o2 := of_ok _ n (by omega) hRv hn
  have s2 := suspended_ok _ n (by omega) hRv hn
  rw [notP_can hv n] at a2 c2 o2 s2
  rw [ap_all] at a2
  rw [ap_reps] at c2
  rw [ap_force0] at o2
  rw [ap_sus0] at s2
  have a3 := same43_ok ((allO (canF l)).filter fun f => !decide (f 47 = n)) (Nat.le_trans (List.length_filter_le _ _) (Nat.le_trans (allO_len _) (by omega))) (fun f hf => (hcv f (allO_mem (List.mem_filter.1 hf).1)).1)
  have c3 := same39_ok ((repO (canF l)).filter fun f => !decide (f 39 = n)) (Nat.le_trans (List.length_filter_le _ _) (Nat.le_trans (repO_len _) (by omega))) (fun f hf => (hcv f (repO_mem (List.mem_filter.1 hf).1)).1)
  have hAl : (allO (canF l)).length ≤ 16 := Nat.le_trans (allO_len _) hcl
  have hOl : (repO (canF l)).length ≤ 16 := Nat.le_trans (repO_len _) hcl
  generalize allO (canF l) = AO at a1 a2 a3 hAl
  generalize repO (canF l) = RO at c1 c2 c3 hOl
  generalize l.filter (notP n) = R at hRv hRl a2 c2 o2 s2
  rw [apS]
  simp -dsimp
  repeat (first | refine WP.seq ?_ | refine WP.block ?_ | (refine WP.region Tryd.tab ?_; simp -dsimp) | (refine WP.draw Tryd.tab Tryd.mixed ?_; simp -dsimp) | refine And.intro (by first | rfl | omega | decide | (simp; done) | (simp; omega) | (intro _ h; exact fcs_side h; done) | (intros; simp_all; done) | (intros; simp_all; omega)) ?_)
  refine WP.cond (b := false) (by simp) (fun h => by cases h) (fun _ => ?_)
  refine WP.exit ?_
  simp -dsimp
  refine WP.weak (Wk.trans (Wk.lessE [] (S' := mkS 127 [(0, .d (slF l)), (1, .d (.v (.int .i64 n))), (5, .row 505)] [(505, rB R)]) (by simp) (by simp)) (Wk.trans (Wk.freeze (k := 505) (T := 49) (sz := 57) (n := R.length) (ds := fsC R) (by simp)) (Wk.lessE [] (S' := mkS 127 [(0, .d (slF l)), (1, .d (.v (.int .i64 n))), (5, .d (slF R))] []) (by simp) (by simp)))) ?_
  repeat (first | refine WP.seq ?_ | refine WP.block ?_ | (refine WP.region Tryd.tab ?_; simp -dsimp) | (refine WP.draw Tryd.tab Tryd.mixed ?_; simp -dsimp) | refine And.intro (by first | rfl | omega | decide | (simp; done) | (simp; omega) | (intro _ h; exact fcs_side h; done) | (intros; simp_all; done) | (intros; simp_all; omega)) ?_)
  refine vcStop.call0 Tryd.body11 a1 rfl rfl (by simp) ?_
  simp -dsimp
  repeat (first | refine WP.seq ?_ | refine WP.block ?_ | (refine WP.region Tryd.tab ?_; simp -dsimp) | (refine WP.draw Tryd.tab Tryd.mixed ?_; simp -dsimp) | refine And.intro (by first | rfl | omega | decide | (simp; done) | (simp; omega) | (intro _ h; exact fcs_side h; done) | (intros; simp_all; done) | (intros; simp_all; omega)) ?_)
  refine WP.loopWk (fun m S => ∃ i, i + m = AO.length ∧ S = apS2 l R AO n ((AO.take i).filter fun f => !decide (f 47 = n)) i) AO.length (S0 := apS2 l R AO n [] 0)
    (Wk.trans (Wk.lessE [] (S' := mkS 127 [(0, .d (slF l)), (1, .d (.v (.int .i64 n))), (5, .d (slF R)), (9, .d nilD), (70, .d (slP 47 6 AO)), (71, .d (.v (.int .i64 AO.length))), (72, .d (.v (.int .i64 0)))] []) (by simp) (by simp)) (Wk.trans (Wk.nilSlot 9 509 43 6 (by simp) (by simp)) (Wk.lessE [] (by simp [apS2]) (by simp [apS2, prt])))) ⟨0, by omega, rfl⟩ ?_
  rintro m2 _ ⟨i, him, rfl⟩
  by_cases hi : i < AO.length
  · have h1 := prt_at 47 6 hi
    have hE2 := filt_snoc (p := fun f => !decide (f 47 = n)) hi
    have e1 : IntKind.i64.wrap ((i : Int) + 1) = ((i + 1 : Nat) : Int) := by rw [IntWalk.i64_in _ (by omega)]; omega
    generalize AO[i] = f at h1 hE2
    have hEl : ((AO.take i).filter fun f => !decide (f 47 = n)).length ≤ 16 := Nat.le_trans (List.length_filter_le _ _) (by rw [List.length_take]; omega)
    generalize ((AO.take i).filter fun f => !decide (f 47 = n)) = E at hEl hE2
    rw [apS2]
    simp -dsimp
    repeat (first | refine WP.seq ?_ | refine WP.block ?_ | (refine WP.region Tryd.tab ?_; simp -dsimp) | (refine WP.draw Tryd.tab Tryd.mixed ?_; simp -dsimp) | refine And.intro (by first | rfl | omega | decide | (simp; done) | (simp; omega) | (intro _ h; exact fcs_side h; done) | (intros; simp_all; done) | (intros; simp_all; omega)) ?_)
    refine WP.cond (b := true) (by simp; omega) (fun _ => ?_) (fun h => by cases h)
    refine WP.skip ?_
    simp -dsimp
    refine WP.seq (WP.block ?_)
    repeat (first | refine WP.seq ?_ | refine WP.block ?_ | (refine WP.region Tryd.tab ?_; simp -dsimp [h1]) | (refine WP.draw Tryd.tab Tryd.mixed ?_; simp -dsimp [h1]) | refine And.intro (by first | rfl | omega | decide | (simp; done) | (simp; omega) | (intro _ h; exact fcs_side h; done) | (intros; simp_all; done) | (intros; simp_all; omega)) ?_)
    refine WP.cond (b := !decide (f 47 = n)) (by simp) (fun hb => ?_) (fun hb => ?_)
    · rw [if_pos hb] at hE2
      repeat (first | refine WP.seq ?_ | refine WP.block ?_ | (refine WP.region Tryd.tab ?_; simp -dsimp) | (refine WP.draw Tryd.tab Tryd.mixed ?_; simp -dsimp) | refine And.intro (by first | rfl | omega | decide | (simp; done) | (simp; omega) | (intro _ h; exact fcs_side h; done) | (intros; simp_all; done) | (intros; simp_all; omega)) ?_)
      refine loopW.next (apS2 l R AO n ((AO.take (i + 1)).filter fun f => !decide (f 47 = n)) (i + 1)) (Wk.go [11, 82, 509] 83 509 (by decide) (by simp [apS2]) (by simp [apS2, e1]) (by rw [hE2]; simp [apS2, prt])) (m2 - 1) (by omega) ⟨i + 1, by omega, rfl⟩
    · rw [if_neg (by simp [hb]), List.append_nil] at hE2
      refine WP.skip ?_
      simp -dsimp
      repeat (first | refine WP.seq ?_ | refine WP.block ?_ | (refine WP.region Tryd.tab ?_; simp -dsimp) | (refine WP.draw Tryd.tab Tryd.mixed ?_; simp -dsimp) | refine And.intro (by first | rfl | omega | decide | (simp; done) | (simp; omega) | (intro _ h; exact fcs_side h; done) | (intros; simp_all; done) | (intros; simp_all; omega)) ?_)
      refine loopW.next (apS2 l R AO n ((AO.take (i + 1)).filter fun f => !decide (f 47 = n)) (i + 1)) (Wk.lessE [11] (by simp [apS2, e1]) (by rw [hE2]; simp [apS2])) (m2 - 1) (by omega) ⟨i + 1, by omega, rfl⟩
  have hil : i = AO.length := by omega
  subst hil
  rw [List.take_length]
  generalize (AO.filter fun f => !decide (f 47 = n)) = WO at a2 a3
  rw [apS2]
  simp -dsimp
  repeat (first | refine WP.seq ?_ | refine WP.block ?_ | (refine WP.region Tryd.tab ?_; simp -dsimp) | (refine WP.draw Tryd.tab Tryd.mixed ?_; simp -dsimp) | refine And.intro (by first | rfl | omega | decide | (simp; done) | (simp; omega) | (intro _ h; exact fcs_side h; done) | (intros; simp_all; done) | (intros; simp_all; omega)) ?_)
  refine WP.cond (b := false) (by simp) (fun h => by cases h) (fun _ => ?_)
  refine WP.exit ?_
  simp -dsimp
  refine WP.weak (Wk.trans (Wk.lessE [] (S' := mkS 127 [(0, .d (slF l)), (1, .d (.v (.int .i64 n))), (5, .d (slF R)), (9, .row 509)] [(509, .row 43 6 WO.length ((prt 47 6 WO).map .d))]) (by simp) (by simp)) (Wk.trans (Wk.freeze (k := 509) (T := 43) (sz := 6) (n := WO.length) (ds := prt 47 6 WO) (by simp)) (Wk.lessE [] (S' := mkS 127 [(0, .d (slF l)), (1, .d (.v (.int .i64 n))), (5, .d (slF R)), (9, .d (slP 47 6 WO))] []) (by simp) (by simp)))) ?_
  repeat (first | refine WP.seq ?_ | refine WP.block ?_ | (refine WP.region Tryd.tab ?_; simp -dsimp) | (refine WP.draw Tryd.tab Tryd.mixed ?_; simp -dsimp) | refine And.intro (by first | rfl | omega | decide | (simp; done) | (simp; omega) | (intro _ h; exact fcs_side h; done) | (intros; simp_all; done) | (intros; simp_all; omega)) ?_)
  refine vcStop.call0 Tryd.body15 c1 rfl rfl (by simp) ?_
  simp -dsimp
  repeat (first | refine WP.seq ?_ | refine WP.block ?_ | (refine WP.region Tryd.tab ?_; simp -dsimp) | (refine WP.draw Tryd.tab Tryd.mixed ?_; simp -dsimp) | refine And.intro (by first | rfl | omega | decide | (simp; done) | (simp; omega) | (intro _ h; exact fcs_side h; done) | (intros; simp_all; done) | (intros; simp_all; omega)) ?_)
  refine WP.loopWk (fun m S => ∃ i, i + m = RO.length ∧ S = apS3 R WO RO n ((RO.take i).filter fun f => !decide (f 39 = n)) i) RO.length (S0 := apS3 R WO RO n [] 0)
    (Wk.trans (Wk.lessE [] (S' := mkS 127 [(1, .d (.v (.int .i64 n))), (5, .d (slF R)), (9, .d (slP 47 6 WO)), (12, .d nilD), (86, .d (slP 39 4 RO)), (87, .d (.v (.int .i64 RO.length))), (88, .d (.v (.int .i64 0)))] []) (by simp) (by simp)) (Wk.trans (Wk.nilSlot 12 512 39 4 (by simp) (by simp)) (Wk.lessE [] (by simp [apS3]) (by simp [apS3, prt])))) ⟨0, by omega, rfl⟩ ?_
  rintro m3 _ ⟨i, him, rfl⟩
  by_cases hi : i < RO.length
  · have h1 := prt_at 39 4 hi
    have hE2 := filt_snoc (p := fun f => !decide (f 39 = n)) hi
    have e1 : IntKind.i64.wrap ((i : Int) + 1) = ((i + 1 : Nat) : Int) := by rw [IntWalk.i64_in _ (by omega)]; omega
    generalize RO[i] = f at h1 hE2
    have hEl : ((RO.take i).filter fun f => !decide (f 39 = n)).length ≤ 16 := Nat.le_trans (List.length_filter_le _ _) (by rw [List.length_take]; omega)
    generalize ((RO.take i).filter fun f => !decide (f 39 = n)) = E at hEl hE2
    rw [apS3]
    simp -dsimp
    repeat (first | refine WP.seq ?_ | refine WP.block ?_ | (refine WP.region Tryd.tab ?_; simp -dsimp) | (refine WP.draw Tryd.tab Tryd.mixed ?_; simp -dsimp) | refine And.intro (by first | rfl | omega | decide | (simp; done) | (simp; omega) | (intro _ h; exact fcs_side h; done) | (intros; simp_all; done) | (intros; simp_all; omega)) ?_)
    refine WP.cond (b := true) (by simp; omega) (fun _ => ?_) (fun h => by cases h)
    refine WP.skip ?_
    simp -dsimp
    refine WP.seq (WP.block ?_)
    repeat (first | refine WP.seq ?_ | refine WP.block ?_ | (refine WP.region Tryd.tab ?_; simp -dsimp [h1]) | (refine WP.draw Tryd.tab Tryd.mixed ?_; simp -dsimp [h1]) | refine And.intro (by first | rfl | omega | decide | (simp; done) | (simp; omega) | (intro _ h; exact fcs_side h; done) | (intros; simp_all; done) | (intros; simp_all; omega)) ?_)
    refine WP.cond (b := !decide (f 39 = n)) (by simp) (fun hb => ?_) (fun hb => ?_)
    · rw [if_pos hb] at hE2
      repeat (first | refine WP.seq ?_ | refine WP.block ?_ | (refine WP.region Tryd.tab ?_; simp -dsimp) | (refine WP.draw Tryd.tab Tryd.mixed ?_; simp -dsimp) | refine And.intro (by first | rfl | omega | decide | (simp; done) | (simp; omega) | (intro _ h; exact fcs_side h; done) | (intros; simp_all; done) | (intros; simp_all; omega)) ?_)
      refine loopW.next (apS3 R WO RO n ((RO.take (i + 1)).filter fun f => !decide (f 39 = n)) (i + 1)) (Wk.go [14, 98, 512] 99 512 (by decide) (by simp [apS3]) (by simp [apS3, e1]) (by rw [hE2]; simp [apS3, prt])) (m3 - 1) (by omega) ⟨i + 1, by omega, rfl⟩
    · rw [if_neg (by simp [hb]), List.append_nil] at hE2
      refine WP.skip ?_
      simp -dsimp
      repeat (first | refine WP.seq ?_ | refine WP.block ?_ | (refine WP.region Tryd.tab ?_; simp -dsimp) | (refine WP.draw Tryd.tab Tryd.mixed ?_; simp -dsimp) | refine And.intro (by first | rfl | omega | decide | (simp; done) | (simp; omega) | (intro _ h; exact fcs_side h; done) | (intros; simp_all; done) | (intros; simp_all; omega)) ?_)
      refine loopW.next (apS3 R WO RO n ((RO.take (i + 1)).filter fun f => !decide (f 39 = n)) (i + 1)) (Wk.lessE [14] (by simp [apS3, e1]) (by rw [hE2]; simp [apS3])) (m3 - 1) (by omega) ⟨i + 1, by omega, rfl⟩
  have hil : i = RO.length := by omega
  subst hil
  rw [List.take_length]
  generalize (RO.filter fun f => !decide (f 39 = n)) = QO at c2 c3
  rw [apS3]
  simp -dsimp
  repeat (first | refine WP.seq ?_ | refine WP.block ?_ | (refine WP.region Tryd.tab ?_; simp -dsimp) | (refine WP.draw Tryd.tab Tryd.mixed ?_; simp -dsimp) | refine And.intro (by first | rfl | omega | decide | (simp; done) | (simp; omega) | (intro _ h; exact fcs_side h; done) | (intros; simp_all; done) | (intros; simp_all; omega)) ?_)
  refine WP.cond (b := false) (by simp) (fun h => by cases h) (fun _ => ?_)
  refine WP.exit ?_
  simp -dsimp
  refine WP.weak (Wk.trans (Wk.lessE [] (S' := mkS 127 [(1, .d (.v (.int .i64 n))), (5, .d (slF R)), (9, .d (slP 47 6 WO)), (12, .row 512)] [(512, .row 39 4 QO.length ((prt 39 4 QO).map .d))]) (by simp) (by simp)) (Wk.trans (Wk.freeze (k := 512) (T := 39) (sz := 4) (n := QO.length) (ds := prt 39 4 QO) (by simp)) (Wk.lessE [] (S' := mkS 127 [(1, .d (.v (.int .i64 n))), (5, .d (slF R)), (9, .d (slP 47 6 WO)), (12, .d (slP 39 4 QO))] []) (by simp) (by simp)))) ?_
  repeat (first | refine WP.seq ?_ | refine WP.block ?_ | (refine WP.region Tryd.tab ?_; simp -dsimp) | (refine WP.draw Tryd.tab Tryd.mixed ?_; simp -dsimp) | refine And.intro (by first | rfl | omega | decide | (simp; done) | (simp; omega) | (intro _ h; exact fcs_side h; done) | (intros; simp_all; done) | (intros; simp_all; omega)) ?_)
  refine vcStop.call0 Tryd.body16 o2 rfl rfl (by simp) ?_
  simp -dsimp [forceD, ru0]
  repeat (first | refine WP.seq ?_ | refine WP.block ?_ | (refine WP.region Tryd.tab ?_; simp -dsimp) | (refine WP.draw Tryd.tab Tryd.mixed ?_; simp -dsimp) | refine And.intro (by first | rfl | omega | decide | (simp; done) | (simp; omega) | (intro _ h; exact fcs_side h; done) | (intros; simp_all; done) | (intros; simp_all; omega)) ?_)
  refine vcStop.call0 Tryd.body11 a2 rfl rfl (by simp) ?_
  simp -dsimp
  repeat (first | refine WP.seq ?_ | refine WP.block ?_ | (refine WP.region Tryd.tab ?_; simp -dsimp) | (refine WP.draw Tryd.tab Tryd.mixed ?_; simp -dsimp) | refine And.intro (by first | rfl | omega | decide | (simp; done) | (simp; omega) | (intro _ h; exact fcs_side h; done) | (intros; simp_all; done) | (intros; simp_all; omega)) ?_)
  refine vcStop.call0 Tryd.body10 a3 rfl rfl (by simp) ?_
  simp -dsimp
  repeat (first | refine WP.seq ?_ | refine WP.block ?_ | (refine WP.region Tryd.tab ?_; simp -dsimp) | (refine WP.draw Tryd.tab Tryd.mixed ?_; simp -dsimp) | refine And.intro (by first | rfl | omega | decide | (simp; done) | (simp; omega) | (intro _ h; exact fcs_side h; done) | (intros; simp_all; done) | (intros; simp_all; omega)) ?_)
  refine vcStopG.call0 Tryd.body15 (fun _ => c2) rfl (fun _ => rfl) (fun hg => by simp) ?_
  simp -dsimp
  repeat (first | refine WP.seq ?_ | refine WP.block ?_ | (refine WP.region Tryd.tab ?_; simp -dsimp) | (refine WP.draw Tryd.tab Tryd.mixed ?_; simp -dsimp) | refine And.intro (by first | rfl | omega | decide | (simp; done) | (simp; omega) | (intro _ h; exact fcs_side h; done) | (intros; simp_all; done) | (intros; simp_all; omega)) ?_)
  refine vcStopG.call0 Tryd.body14 (fun _ => c3) rfl (fun _ => rfl) (fun hg => by simp) ?_
  simp -dsimp
  repeat (first | refine WP.seq ?_ | refine WP.block ?_ | (refine WP.region Tryd.tab ?_; simp -dsimp) | (refine WP.draw Tryd.tab Tryd.mixed ?_; simp -dsimp) | refine And.intro (by first | rfl | omega | decide | (simp; done) | (simp; omega) | (intro _ h; exact fcs_side h; done) | (intros; simp_all; done) | (intros; simp_all; omega)) ?_)
  refine vcStopG.call0 Tryd.body18 (fun _ => s2) rfl (fun _ => rfl) (fun hg => by simp) ?_
  simp -dsimp
  repeat (first | refine WP.seq ?_ | refine WP.block ?_ | (refine WP.region Tryd.tab ?_; simp -dsimp) | (refine WP.draw Tryd.tab Tryd.mixed ?_; simp -dsimp) | refine And.intro (by first | rfl | omega | decide | (simp; done) | (simp; omega) | (intro _ h; exact fcs_side h; done) | (intros; simp_all; done) | (intros; simp_all; omega)) ?_)
  refine WP.ret (finQ.retE ?_)
  simp -dsimp
end Go.Proofs.YtjjaabidbeoomaaDoor
