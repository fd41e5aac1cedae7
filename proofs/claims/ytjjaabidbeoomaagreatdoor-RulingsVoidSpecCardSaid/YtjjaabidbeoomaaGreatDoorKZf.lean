/-
  Rulings: the reference's reports and void rulings.
-/
import Derived.Test.YtjjaabidbeoomaaGreatDoorKL
set_option linter.unusedSectionVars false
set_option linter.unusedSimpArgs false
set_option linter.unusedVariables false
namespace Go.Proofs.YtjjaabidbeoomaaGreatDoor
open Go.Xe Go.RowKit

theorem filt_first {c : List F} {q : F → Bool} {k : Nat} (hk : k < c.length) (hno : ∀ f ∈ c.take k, q f = false) (hq : q (fat c k) = true) : (c.filter q).head? = some (fat c k) := by
  have h : c = c.take k ++ fat c k :: c.drop (k + 1) := by rw [← drop_fat hk, List.take_append_drop]
  have h0 : (c.take k).filter q = [] := List.filter_eq_nil_iff.2 fun f hf e => by rw [hno f hf] at e; cases e
  rw [congrArg (fun x => (x.filter q).head?) h]
  simp only [List.filter_append, h0, List.filter_cons, hq, if_true, List.nil_append, List.head?_cons]
theorem filt_snocZ {A : List F} {p : F → Bool} {i : Nat} (hi : i < A.length) : (A.take (i + 1)).filter p = (A.take i).filter p ++ if p (fat A i) = true then [fat A i] else [] := by
  rw [take_fat hi, List.filter_append]; congr 1
  simp only [List.filter_cons, List.filter_nil]
def rrS (c : List F) (ns : List Int) (E : List F) (i : Nat) : St :=
  mkS 53 [(3, .d (slF c)), (4, .d (slI ns)), (5, .row 505), (6, .d (.v (.int .i64 (i : Nat))))] [(505, .row 54 4 E.length ((prt 39 4 E).map .d))]
def riS (c : List F) (ns : List Int) (E : List F) (i k : Nat) : St :=
  mkS 53 [(3, .d (slF c)), (4, .d (slI ns)), (5, .row 505), (6, .d (.v (.int .i64 (i : Nat)))), (7, .d (.v (.int .i64 (k : Nat))))] [(505, .row 54 4 E.length ((prt 39 4 E).map .d))]
set_option maxRecDepth 10000 in
set_option maxHeartbeats 4000000 in
theorem refReports_ok (l : List F) (hl : l.length ≤ 100) (hv : ∀ f ∈ l, fOk f) : Fn0 Tryz.prog 18 [slF l] (.sl 4 (prt 39 4 (repO (canF l))) (repO (canF l)).length false) := by
  have h1 := canon_ok l hl hv
  have hcl := Nat.le_trans (canF_len hv) hl
  have hcv := canF_vOk hv
  rw [← rep_kc hcv]
  generalize canF l = c at h1 hcl hcv
  have h2 := cases_ok c 8 hcl hcv (.inr rfl)
  have hnl : (kcL 8 c).length ≤ 100 := Nat.le_trans (kcL_len 8 c []) (by simpa using hcl)
  change Fn0 _ 18 _ (.sl 4 (prt 39 4 (repN c (kcL 8 c))) (repN c (kcL 8 c)).length false)
  generalize kcL 8 c = ns at h2 hnl
  refine Fun.of_wp (pn := noPn) Tryz.tab Tryz.func18 rfl fun β0 => ?_
  simp only [Tryz.f18]
  repeat (first | refine wS ?_ | refine wB ?_ | ((first | refine wR ?_ | refine wD ?_); simp -dsimp) | refine aI ?_)
  refine vcStop.call0 Tryz.body22 h1 rfl rfl (by simp) ?_
  simp -dsimp
  repeat (first | refine wS ?_ | refine wB ?_ | ((first | refine wR ?_ | refine wD ?_); simp -dsimp) | refine aI ?_)
  refine vcStop.call0 Tryz.body25 h2 rfl rfl (by simp) ?_
  simp -dsimp
  repeat (first | refine wS ?_ | refine wB ?_ | ((first | refine wR ?_ | refine wD ?_); simp -dsimp) | refine aI ?_)
  refine WP.loopWk (fun m S => ∃ i, i + m = ns.length ∧ S = rrS c ns (repN c (ns.take i)) i) ns.length (S0 := rrS c ns [] 0) (Wk.go [] 12 505 (by decide) (by simp [rrS]) (by simp [rrS]) (by simp [rrS, prt])) ⟨0, by omega, rfl⟩ ?_
  rintro m _ ⟨i, him, rfl⟩
  by_cases hi : i < ns.length
  · have htk : ns.take (i + 1) = ns.take i ++ [ns[i]] := by rw [List.take_succ_eq_append_getElem hi]
    have hsn := repN_snoc c (ns.take i) ns[i]
    rw [← htk, show (fileOf c ns[i]).rep = c.filter (isRep ns[i]) from rfl] at hsn
    have hal := repN_len c (ns.take i)
    rw [List.length_take] at hal
    have e1 : IntKind.i64.wrap ((i : Int) + 1) = ((i + 1 : Nat) : Int) := by rw [IntWalk.i64_in _ (by omega)]; omega
    have hq := iD_at' ns i hi
    have hgn : (iD ns)[i]'(by simpa using hi) = .v (.int .i64 ns[i]) := iD_gE ns i _
    generalize ns[i] = n at hsn hq hgn htk
    generalize repN c (ns.take i) = E at hsn hal
    rw [rrS]
    simp -dsimp
    repeat (first | refine wS ?_ | refine wB ?_ | ((first | refine wR ?_ | refine wD ?_); simp -dsimp) | refine aI ?_)
    refine WP.cond (b := true) (by simp; omega) (fun _ => ?_) (fun h => by cases h)
    refine WP.skip ?_
    simp -dsimp
    repeat (first | refine wS ?_ | refine wB ?_ | ((first | refine wR ?_ | refine wD ?_); simp -dsimp) | refine aI ?_)
    refine WP.loopWk (fun m S => ∃ k, k + m = c.length ∧ (∀ f ∈ c.take k, isRep n f = false) ∧ S = riS c ns E i k) c.length (S0 := riS c ns E i 0) (Wk.lessE [] (by simp [riS]) (by simp [riS])) ⟨0, by omega, by simp, rfl⟩ ?_
    rintro m2 _ ⟨k, hkm, hno, rfl⟩
    by_cases hk : k < c.length
    · have h5 := fsC_at hk
      have hff := filt_first (q := isRep n) hk hno
      have htc := take_fat hk
      have e2 : IntKind.i64.wrap ((k : Int) + 1) = ((k + 1 : Nat) : Int) := by rw [IntWalk.i64_in _ (by omega)]; omega
      generalize fat c k = f at h5 hff htc
      rw [riS]
      simp -dsimp
      repeat (first | refine wS ?_ | refine wB ?_ | ((first | refine wR ?_ | refine wD ?_); simp -dsimp) | refine aI ?_)
      refine WP.cond (b := true) (by simp; omega) (fun _ => ?_) (fun h => by cases h)
      refine WP.skip ?_
      simp -dsimp
      refine WP.seq (WP.block ?_)
      repeat (first | refine wS ?_ | refine wB ?_ | ((first | refine wR ?_ | refine wD ?_); simp -dsimp [h5, fcs_gE, hq, hgn, hi]) | refine aI ?_)
      refine WP.cond (b := isRep n f) (by simp [isRep]) (fun hb => ?_) (fun hb => ?_)
      · rw [hff hb] at hsn
        simp only [Option.toList] at hsn
        repeat (first | refine wS ?_ | refine wB ?_ | ((first | refine wR ?_ | refine wD ?_); simp -dsimp [h5]) | refine aI ?_)
        refine WP.exit ?_
        simp -dsimp
        repeat (first | refine wS ?_ | refine wB ?_ | ((first | refine wR ?_ | refine wD ?_); simp -dsimp) | refine aI ?_)
        refine loopW.next (rrS c ns (repN c (ns.take (i + 1))) (i + 1)) (Wk.go [50, 505] 51 505 (by decide) (by simp [rrS]) (by simp [rrS, e1]) (by simp [rrS, hsn, prt])) (m - 1) (by omega) ⟨i + 1, by omega, rfl⟩
      · refine WP.skip ?_
        simp -dsimp
        repeat (first | refine wS ?_ | refine wB ?_ | ((first | refine wR ?_ | refine wD ?_); simp -dsimp) | refine aI ?_)
        refine loopW.next (riS c ns E i (k + 1)) (Wk.lessE [] (by simp [riS, e2]) (by simp [riS])) (m2 - 1) (by omega) ⟨k + 1, by omega, fun x hx => ?_, rfl⟩
        rw [htc] at hx
        rcases List.mem_append.1 hx with hx | hx
        · exact hno x hx
        · rw [List.mem_singleton] at hx; subst hx; exact hb
    · have hkc : k = c.length := by omega
      subst hkc
      rw [List.take_length] at hno
      have h0 : c.filter (isRep n) = [] := List.filter_eq_nil_iff.2 fun f hf e => by rw [hno f hf] at e; cases e
      rw [h0] at hsn
      simp only [List.head?_nil, Option.toList, List.append_nil] at hsn
      rw [riS]
      simp -dsimp
      repeat (first | refine wS ?_ | refine wB ?_ | ((first | refine wR ?_ | refine wD ?_); simp -dsimp) | refine aI ?_)
      refine WP.cond (b := false) (by simp) (fun h => by cases h) (fun _ => ?_)
      refine WP.exit ?_
      simp -dsimp
      repeat (first | refine wS ?_ | refine wB ?_ | ((first | refine wR ?_ | refine wD ?_); simp -dsimp) | refine aI ?_)
      refine loopW.next (rrS c ns (repN c (ns.take (i + 1))) (i + 1)) (Wk.lessE [] (by simp [rrS, e1]) (by simp [rrS, hsn])) (m - 1) (by omega) ⟨i + 1, by omega, rfl⟩
  have hic : i = ns.length := by omega
  subst hic
  rw [List.take_length]
  rw [rrS]
  simp -dsimp
  repeat (first | refine wS ?_ | refine wB ?_ | ((first | refine wR ?_ | refine wD ?_); simp -dsimp) | refine aI ?_)
  refine WP.cond (b := false) (by simp) (fun h => by cases h) (fun _ => ?_)
  refine WP.exit ?_
  simp -dsimp
  repeat (first | refine wS ?_ | refine wB ?_ | ((first | refine wR ?_ | refine wD ?_); simp -dsimp) | refine aI ?_)
  refine WP.ret (finQ.retWE (S' := mkS 53 [(2, .d (.sl 4 (prt 39 4 (repN c ns)) (repN c ns).length false))] []) (Wk.trans (Wk.lessE [] (S' := mkS 53 [(2, .row 505)] [(505, .row 54 4 (repN c ns).length ((prt 39 4 (repN c ns)).map .d))]) (by simp) (by simp)) (Wk.trans (Wk.freeze (k := 505) (T := 54) (sz := 4) (n := (repN c ns).length) (ds := prt 39 4 (repN c ns)) (by simp)) (Wk.lessE [] (by simp) (by simp)))) ?_)
  simp -dsimp
def rvS (c : List F) (E : List F) (i : Nat) : St :=
  mkS 54 [(3, .d (slF c)), (4, .row 504), (5, .d (.v (.int .i64 (i : Nat))))] [(504, .row 60 2 E.length ((prt 0 2 E).map .d))]
set_option maxRecDepth 10000 in
set_option maxHeartbeats 4000000 in
theorem refVoid_ok (l : List F) (hl : l.length ≤ 100) (hv : ∀ f ∈ l, fOk f) : Fn0 Tryz.prog 15 [slF l] (.sl 2 (prt 0 2 (voidL (canF l))) (voidL (canF l)).length false) := by
  have h1 := canon_ok l hl hv
  have hcl := Nat.le_trans (canF_len hv) hl
  have hcv := canF_vOk hv
  have hca := (canF_ok hv).asc
  rw [voidO_eq hcv hca]
  generalize canF l = c at h1 hcl hcv hca
  refine Fun.of_wp (pn := noPn) Tryz.tab Tryz.func15 rfl fun β0 => ?_
  simp only [Tryz.f15]
  repeat (first | refine wS ?_ | refine wB ?_ | ((first | refine wR ?_ | refine wD ?_); simp -dsimp) | refine aI ?_)
  refine vcStop.call0 Tryz.body22 h1 rfl rfl (by simp) ?_
  simp -dsimp
  repeat (first | refine wS ?_ | refine wB ?_ | ((first | refine wR ?_ | refine wD ?_); simp -dsimp) | refine aI ?_)
  refine WP.loopWk (fun m S => ∃ i, i + m = c.length ∧ S = rvS c ((c.take i).filter (vdP c)) i) c.length (S0 := rvS c [] 0) (Wk.go [] 8 504 (by decide) (by simp [rvS]) (by simp [rvS]) (by simp [rvS, prt])) ⟨0, by omega, rfl⟩ ?_
  rintro m _ ⟨i, him, rfl⟩
  by_cases hi : i < c.length
  · have h5 := fsC_at hi
    have hsn := filt_snocZ (p := vdP c) hi
    have hvd := vd_at hca hi
    have hfa : fat c i = c[i] := by rw [fat, getD_at hi]
    rw [← hfa] at hvd
    have e1 : IntKind.i64.wrap ((i : Int) + 1) = ((i + 1 : Nat) : Int) := by rw [IntWalk.i64_in _ (by omega)]; omega
    generalize fat c i = f at h5 hsn hvd
    have hst := standing_ok c (f 47) (f 48) hcl
    generalize stI (isRul (f 47) (f 48)) c 0 = r at hst hvd
    have hEl : ((c.take i).filter (vdP c)).length ≤ 100 := Nat.le_trans (List.length_filter_le _ _) (by rw [List.length_take]; omega)
    generalize vdP c f = b at hsn hvd
    generalize (c.take i).filter (vdP c) = E at hsn hEl
    rw [rvS]
    simp -dsimp
    repeat (first | refine wS ?_ | refine wB ?_ | ((first | refine wR ?_ | refine wD ?_); simp -dsimp) | refine aI ?_)
    refine WP.cond (b := true) (by simp; omega) (fun _ => ?_) (fun h => by cases h)
    refine WP.skip ?_
    simp -dsimp
    refine WP.seq (WP.block ?_)
    repeat (first | refine wS ?_ | refine wB ?_ | ((first | refine wR ?_ | refine wD ?_); simp -dsimp [h5, fcs_gE]) | refine aI ?_)
    refine vcStopG.call0 Tryz.body30 (fun _ => hst) rfl (fun _ => rfl) (fun hg => by simp [hg]) ?_
    simp -dsimp
    repeat (first | refine wS ?_ | refine wB ?_ | ((first | refine wR ?_ | refine wD ?_); simp -dsimp) | refine aI ?_)
    refine WP.cond (b := b) (by rw [hvd]; simp) (fun hb => ?_) (fun hb => ?_)
    · rw [if_pos hb] at hsn
      repeat (first | refine wS ?_ | refine wB ?_ | ((first | refine wR ?_ | refine wD ?_); simp -dsimp [h5, fcs_gE]) | refine aI ?_)
      refine loopW.next (rvS c ((c.take (i + 1)).filter (vdP c)) (i + 1)) (Wk.go [51, 504] 52 504 (by decide) (by simp [rvS]) (by simp [rvS, e1]) (by simp [rvS, hsn, prt, fcs02])) (m - 1) (by omega) ⟨i + 1, by omega, rfl⟩
    · rw [if_neg (by rw [hb]; simp), List.append_nil] at hsn
      refine WP.skip ?_
      simp -dsimp
      repeat (first | refine wS ?_ | refine wB ?_ | ((first | refine wR ?_ | refine wD ?_); simp -dsimp) | refine aI ?_)
      refine loopW.next (rvS c ((c.take (i + 1)).filter (vdP c)) (i + 1)) (Wk.lessE [] (by simp [rvS, e1]) (by simp [rvS, hsn])) (m - 1) (by omega) ⟨i + 1, by omega, rfl⟩
  have hic : i = c.length := by omega
  subst hic
  rw [List.take_length]
  generalize c.filter (vdP c) = E
  rw [rvS]
  simp -dsimp
  repeat (first | refine wS ?_ | refine wB ?_ | ((first | refine wR ?_ | refine wD ?_); simp -dsimp) | refine aI ?_)
  refine WP.cond (b := false) (by simp) (fun h => by cases h) (fun _ => ?_)
  refine WP.exit ?_
  simp -dsimp
  repeat (first | refine wS ?_ | refine wB ?_ | ((first | refine wR ?_ | refine wD ?_); simp -dsimp) | refine aI ?_)
  refine WP.ret (finQ.retWE (S' := mkS 54 [(2, .d (.sl 2 (prt 0 2 E) E.length false))] []) (Wk.trans (Wk.lessE [] (S' := mkS 54 [(2, .row 504)] [(504, .row 60 2 E.length ((prt 0 2 E).map .d))]) (by simp) (by simp)) (Wk.trans (Wk.freeze (k := 504) (T := 60) (sz := 2) (n := E.length) (ds := prt 0 2 E) (by simp)) (Wk.lessE [] (by simp) (by simp)))) ?_)
  simp -dsimp
end Go.Proofs.YtjjaabidbeoomaaGreatDoor
