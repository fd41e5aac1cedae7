/-
  Joined texts.
-/
import Derived.Test.YtjjaabidbeoomaaGreatDoorKQg
import Derived.Test.YtjjaabidbeoomaaGreatDoorKB
set_option linter.unusedVariables false
set_option linter.unusedSimpArgs false
set_option linter.unusedSectionVars false
/-
  Rulings: all of them that are in force.
-/
set_option linter.unusedSimpArgs false
set_option linter.unusedVariables false
namespace Go.Proofs.YtjjaabidbeoomaaGreatDoor
open Go.Xe Go.RowKit

/-- Parts of facts' cells, in a row. -/
def prt (a k : Nat) (l : List F) : List D := l.flatMap fun f => fcs f a k
theorem prt_append (a k : Nat) (l r : List F) : prt a k (l ++ r) = prt a k l ++ prt a k r := by simp [prt]
@[simp] theorem prt_len (a k : Nat) : ∀ l : List F, (prt a k l).length = l.length * k
  | [] => by simp [prt]
  | f :: l => by rw [show prt a k (f :: l) = fcs f a k ++ prt a k l from rfl, List.length_append, prt_len a k l, List.length_cons, Nat.add_mul, fcs_length]; omega
@[simp] theorem prt_hasL (j a k : Nat) (l : List F) : AV.hasL j ((prt a k l).map .d) = false := hasL_ds fun x h => by
  obtain ⟨d, _, rfl⟩ := List.mem_map.1 h; exact ⟨d, rfl⟩
def allN (c : List F) (ns : List Int) : List F := ns.filterMap fun n => forceO (fileOf c n)
theorem allN_snoc (c : List F) (ns : List Int) (n : Int) : allN c (ns ++ [n]) = allN c ns ++ (forceO (fileOf c n)).toList := by
  rw [allN, List.filterMap_append, List.filterMap_cons, List.filterMap_nil]
  split <;> simp_all [allN]
theorem allN_len (c : List F) (ns : List Int) : (allN c ns).length ≤ ns.length := List.length_filterMap_le _ _
theorem casesL_len' (c : List F) : (casesL c).length ≤ c.length := by
  have h := cases_perm (c := c) (List.Perm.refl _)
  rw [h.length_eq]
  simpa using numsL_len c []
def aS (c : List F) (ns : List Int) (i : Nat) : St :=
  mkS 29 [(2, .row 503), (9, .d (.sl 1 (fpL c ns) ns.length false)), (10, .d (.v (.int .i64 ns.length))), (11, .d (.v (.int .i64 (i : Nat))))] [(503, .row 25 6 (allN c (ns.take i)).length ((prt 47 6 (allN c (ns.take i))).map .d))]
set_option maxRecDepth 10000 in
set_option maxHeartbeats 4000000 in
theorem all_ok (l : List F) (hl : l.length ≤ 100) (hv : ∀ f ∈ l, fOk f) : Fn0 Tryz.prog 9 [slF l] (.sl 6 (prt 47 6 (allO (canF l))) (allO (canF l)).length false) := by
  have hfi := files_ok l hl hv
  have hcl := Nat.le_trans (canF_len hv) hl
  have hcsl := casesL_len' (canF l)
  have hAO : allO (canF l) = allN (canF l) (casesL (canF l)) := rfl
  rw [filesD] at hfi
  rw [hAO]
  clear hAO
  generalize canF l = c at hfi hcl hcsl
  generalize casesL c = ns at hfi hcsl
  refine Fun.of_wp (pn := noPn) Tryz.tab Tryz.func9 rfl fun β0 => ?_
  simp only [Tryz.f9]
  repeat (first | refine wS ?_ | refine wB ?_ | ((first | refine wR ?_ | refine wD ?_); simp -dsimp) | refine aI ?_)
  refine vcStop.call0 Tryz.body24 hfi rfl rfl (by simp) ?_
  simp -dsimp
  repeat (first | refine wS ?_ | refine wB ?_ | ((first | refine wR ?_ | refine wD ?_); simp -dsimp) | refine aI ?_)
  refine WP.loopWk (fun m S => ∃ i, i + m = ns.length ∧ S = aS c ns i) ns.length (S0 := aS c ns 0) (Wk.trans (Wk.lessE [] (S' := mkS 29 [(2, .d nilD), (9, .d (.sl 1 (fpL c ns) ns.length false)), (10, .d (.v (.int .i64 ns.length))), (11, .d (.v (.int .i64 0)))] []) (by simp) (by simp)) (Wk.trans (Wk.nilSlot 2 503 25 6 (by simp) (by simp)) (Wk.lessE [] (by simp [aS]) (by simp [aS, allN, prt])))) ⟨0, by omega, rfl⟩ ?_
  rintro m _ ⟨i, him, rfl⟩
  rw [aS]
  simp -dsimp
  repeat (first | refine wS ?_ | refine wB ?_ | ((first | refine wR ?_ | refine wD ?_); simp -dsimp) | refine aI ?_)
  by_cases hi : i < ns.length
  · have h1 := fpL_at c hi
    have h2 := fpL_atA c hi
    have h3 := fpL_atL c hi
    have htk : ns.take (i + 1) = ns.take i ++ [ns[i]] := by rw [List.take_succ_eq_append_getElem hi]
    generalize ns[i] = n at h1 h2 h3 htk
    have e1 : IntKind.i64.wrap ((i : Int) + 1) = ((i + 1 : Nat) : Int) := by rw [IntWalk.i64_in _ (by omega)]; omega
    have hf := force_ok c n hcl
    have hsn := allN_snoc c (ns.take i) n
    rw [← htk] at hsn
    have hal := allN_len c (ns.take i)
    rw [List.length_take] at hal
    generalize hA : allN c (ns.take i) = A at hsn hal
    refine WP.cond (b := true) (by simp; omega) (fun _ => ?_) (fun h => by cases h)
    refine WP.skip ?_
    simp -dsimp
    refine WP.seq (WP.block ?_)
    repeat (first | refine wS ?_ | refine wB ?_ | ((first | refine wR ?_ | refine wD ?_); simp -dsimp [h1, h2, h3]) | refine aI ?_)
    refine vcStop.call0 Tryz.body21 hf rfl rfl (by simp) ?_
    generalize forceO (fileOf c n) = o at hf hsn
    clear hf
    cases o with
    | none =>
      rw [forceD]
      simp only [Option.toList, List.append_nil] at hsn
      simp -dsimp
      repeat (first | refine wS ?_ | refine wB ?_ | ((first | refine wR ?_ | refine wD ?_); simp -dsimp) | refine aI ?_)
      refine WP.cond (b := false) (by simp) (fun h => by cases h) (fun _ => ?_)
      refine WP.skip ?_
      simp -dsimp
      repeat (first | refine wS ?_ | refine wB ?_ | ((first | refine wR ?_ | refine wD ?_); simp -dsimp) | refine aI ?_)
      refine loopW.next (aS c ns (i + 1)) (Wk.lessE [6] (by simp [aS, e1]) (by simp [aS, hsn])) (m - 1) (by omega) ⟨i + 1, by omega, rfl⟩
    | some f =>
      rw [forceD, ruD]
      simp only [Option.toList] at hsn
      simp -dsimp
      repeat (first | refine wS ?_ | refine wB ?_ | ((first | refine wR ?_ | refine wD ?_); simp -dsimp) | refine aI ?_)
      refine WP.cond (b := true) (by simp) (fun _ => ?_) (fun h => by cases h)
      repeat (first | refine wS ?_ | refine wB ?_ | ((first | refine wR ?_ | refine wD ?_); simp -dsimp) | refine aI ?_)
      refine loopW.next (aS c ns (i + 1)) (Wk.go [6, 25, 503] 26 503 (by decide) (by simp [aS]) (by simp [aS, e1]) (by simp [aS, hsn, prt])) (m - 1) (by omega) ⟨i + 1, by omega, rfl⟩
  · have hic : i = ns.length := by omega
    subst hic
    refine WP.cond (b := false) (by simp) (fun h => by cases h) (fun _ => ?_)
    refine WP.exit ?_
    simp -dsimp
    repeat (first | refine wS ?_ | refine wB ?_ | ((first | refine wR ?_ | refine wD ?_); simp -dsimp) | refine aI ?_)
    refine WP.ret (finQ.retWE (S' := mkS 29 [(2, .d (.sl 6 (prt 47 6 (allN c ns)) (allN c ns).length false))] []) (Wk.trans (Wk.lessE [] (S' := mkS 29 [(2, .row 503)] [(503, .row 25 6 (allN c ns).length ((prt 47 6 (allN c ns)).map .d))]) (by simp) (by simp)) (Wk.trans (Wk.freeze (k := 503) (T := 25) (sz := 6) (n := (allN c ns).length) (ds := prt 47 6 (allN c ns)) (by simp)) (Wk.lessE [] (by simp) (by simp)))) ?_)
    simp -dsimp
end Go.Proofs.YtjjaabidbeoomaaGreatDoor

/-
  Rulings: the reports.
-/
set_option linter.unusedSimpArgs false
set_option linter.unusedVariables false
namespace Go.Proofs.YtjjaabidbeoomaaGreatDoor
open Go.Xe Go.RowKit

def repN (c : List F) (ns : List Int) : List F := ns.filterMap fun n => (fileOf c n).rep.head?
theorem repN_snoc (c : List F) (ns : List Int) (n : Int) : repN c (ns ++ [n]) = repN c ns ++ ((fileOf c n).rep.head?).toList := by
  rw [repN, List.filterMap_append, List.filterMap_cons, List.filterMap_nil]
  split <;> simp_all [repN]
theorem repN_len (c : List F) (ns : List Int) : (repN c ns).length ≤ ns.length := List.length_filterMap_le _ _
theorem repC_hd (f : F) (r : List F) : (repC (f :: r)).take 4 = fcs f 39 4 := by
  rw [show repC (f :: r) = fcs f 39 4 ++ repC r from rfl, List.take_append_of_le_length (by simp)]
  simp
theorem repC_hdA (f : F) (r : List F) : ((repC (f :: r)).map AV.d).take 4 = (fcs f 39 4).map .d := by rw [← List.map_take, repC_hd]
theorem repC_min (f : F) (r : List F) : min 4 (repC (f :: r)).length = 4 := by rw [repC_len, List.length_cons]; omega
def bRS (c : List F) (ns : List Int) (i : Nat) : St :=
  mkS 29 [(2, .row 503), (6, .d (.sl 1 (fpL c ns) ns.length false)), (7, .d (.v (.int .i64 ns.length))), (8, .d (.v (.int .i64 (i : Nat))))] [(503, .row 54 4 (repN c (ns.take i)).length ((prt 39 4 (repN c (ns.take i))).map .d))]
set_option maxRecDepth 10000 in
set_option maxHeartbeats 4000000 in
theorem reports_ok (l : List F) (hl : l.length ≤ 100) (hv : ∀ f ∈ l, fOk f) : Fn0 Tryz.prog 17 [slF l] (.sl 4 (prt 39 4 (repO (canF l))) (repO (canF l)).length false) := by
  have hfi := files_ok l hl hv
  have hcl := Nat.le_trans (canF_len hv) hl
  have hcsl := casesL_len' (canF l)
  have hAO : repO (canF l) = repN (canF l) (casesL (canF l)) := rfl
  rw [filesD] at hfi
  rw [hAO]
  clear hAO
  generalize canF l = c at hfi hcl hcsl
  generalize casesL c = ns at hfi hcsl
  refine Fun.of_wp (pn := noPn) Tryz.tab Tryz.func17 rfl fun β0 => ?_
  simp only [Tryz.f17]
  repeat (first | refine wS ?_ | refine wB ?_ | ((first | refine wR ?_ | refine wD ?_); simp -dsimp) | refine aI ?_)
  refine vcStop.call0 Tryz.body24 hfi rfl rfl (by simp) ?_
  simp -dsimp
  repeat (first | refine wS ?_ | refine wB ?_ | ((first | refine wR ?_ | refine wD ?_); simp -dsimp) | refine aI ?_)
  refine WP.loopWk (fun m S => ∃ i, i + m = ns.length ∧ S = bRS c ns i) ns.length (S0 := bRS c ns 0) (Wk.trans (Wk.lessE [] (S' := mkS 29 [(2, .d nilD), (6, .d (.sl 1 (fpL c ns) ns.length false)), (7, .d (.v (.int .i64 ns.length))), (8, .d (.v (.int .i64 0)))] []) (by simp) (by simp)) (Wk.trans (Wk.nilSlot 2 503 54 4 (by simp) (by simp)) (Wk.lessE [] (by simp [bRS]) (by simp [bRS, repN, prt])))) ⟨0, by omega, rfl⟩ ?_
  rintro m _ ⟨i, him, rfl⟩
  rw [bRS]
  simp -dsimp
  repeat (first | refine wS ?_ | refine wB ?_ | ((first | refine wR ?_ | refine wD ?_); simp -dsimp) | refine aI ?_)
  by_cases hi : i < ns.length
  · have h1 := fpL_at c hi
    have h2 := fpL_atA c hi
    have h3 := fpL_atL c hi
    have htk : ns.take (i + 1) = ns.take i ++ [ns[i]] := by rw [List.take_succ_eq_append_getElem hi]
    generalize ns[i] = n at h1 h2 h3 htk
    have e1 : IntKind.i64.wrap ((i : Int) + 1) = ((i + 1 : Nat) : Int) := by rw [IntWalk.i64_in _ (by omega)]; omega
    have hfd : fpD c n = flD n (c.filter (isRul n 1)) (c.filter (isRul n 2)) (c.filter (isRep n)) (c.any (isApp n)) := rfl
    rw [hfd] at h1 h2 h3
    have hsn := repN_snoc c (ns.take i) n
    rw [← htk] at hsn
    have hal := repN_len c (ns.take i)
    rw [List.length_take] at hal
    have hrl : (c.filter (isRep n)).length ≤ 100 := Nat.le_trans (List.length_filter_le _ _) hcl
    rw [show (fileOf c n).rep = c.filter (isRep n) from rfl] at hsn
    generalize c.filter (isRul n 1) = r1 at h1 h2 h3
    generalize c.filter (isRul n 2) = r2 at h1 h2 h3
    generalize c.filter (isRep n) = rp at h1 h2 h3 hsn hrl
    generalize c.any (isApp n) = ap at h1 h2 h3
    generalize hA : repN c (ns.take i) = A at hsn hal
    refine WP.cond (b := true) (by simp; omega) (fun _ => ?_) (fun h => by cases h)
    refine WP.skip ?_
    simp -dsimp
    refine WP.seq (WP.block ?_)
    repeat (first | refine wS ?_ | refine wB ?_ | ((first | refine wR ?_ | refine wD ?_); simp -dsimp [h1, h2, h3]) | refine aI ?_)
    cases rp with
    | nil =>
      simp only [List.head?_nil, Option.toList, List.append_nil] at hsn
      refine WP.cond (b := false) (by simp) (fun h => by cases h) (fun _ => ?_)
      refine WP.skip ?_
      simp -dsimp
      repeat (first | refine wS ?_ | refine wB ?_ | ((first | refine wR ?_ | refine wD ?_); simp -dsimp) | refine aI ?_)
      refine loopW.next (bRS c ns (i + 1)) (Wk.lessE [] (by simp [bRS, e1]) (by simp [bRS, hsn])) (m - 1) (by omega) ⟨i + 1, by omega, rfl⟩
    | cons f r =>
      have hr1 : r.length + 1 ≤ 100 := hrl
      simp only [List.head?_cons, Option.toList] at hsn
      refine WP.cond (b := true) (by simp) (fun _ => ?_) (fun h => by cases h)
      repeat (first | refine wS ?_ | refine wB ?_ | ((first | refine wR ?_ | refine wD ?_); simp -dsimp [repC_hd, repC_hdA, repC_min]) | refine aI ?_)
      refine loopW.next (bRS c ns (i + 1)) (Wk.go [25, 503] 26 503 (by decide) (by simp [bRS]) (by simp [bRS, e1]) (by simp [bRS, hsn, prt])) (m - 1) (by omega) ⟨i + 1, by omega, rfl⟩
  · have hic : i = ns.length := by omega
    subst hic
    refine WP.cond (b := false) (by simp) (fun h => by cases h) (fun _ => ?_)
    refine WP.exit ?_
    simp -dsimp
    repeat (first | refine wS ?_ | refine wB ?_ | ((first | refine wR ?_ | refine wD ?_); simp -dsimp) | refine aI ?_)
    refine WP.ret (finQ.retWE (S' := mkS 29 [(2, .d (.sl 4 (prt 39 4 (repN c ns)) (repN c ns).length false))] []) (Wk.trans (Wk.lessE [] (S' := mkS 29 [(2, .row 503)] [(503, .row 54 4 (repN c ns).length ((prt 39 4 (repN c ns)).map .d))]) (by simp) (by simp)) (Wk.trans (Wk.freeze (k := 503) (T := 54) (sz := 4) (n := (repN c ns).length) (ds := prt 39 4 (repN c ns)) (by simp)) (Wk.lessE [] (by simp) (by simp)))) ?_)
    simp -dsimp
end Go.Proofs.YtjjaabidbeoomaaGreatDoor
