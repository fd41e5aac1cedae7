/-
  Rulings: a case's file, found or made.
-/
import Derived.Test.YtjjaabidbeoomaaGreatDoorKQg
import Derived.Test.YtjjaabidbeoomaaGreatDoorKB
set_option linter.unusedSectionVars false
set_option linter.unusedSimpArgs false
set_option linter.unusedVariables false
namespace Go.Proofs.YtjjaabidbeoomaaGreatDoor
open Go.Xe Go.RowKit

theorem canF_vOk {l : List F} (hv : ∀ f ∈ l, fOk f) : ∀ f ∈ canF l, vOk f := fun f hf => ⟨hv f (((canF_ok hv).mem f).1 hf).1, (((canF_ok hv).mem f).1 hf).2⟩
theorem casesL_len (c : List F) : (casesL c).length ≤ c.length := by
  have h := cases_perm (c := c) (List.Perm.refl _)
  rw [h.length_eq]
  simpa using numsL_len c []
set_option maxRecDepth 10000 in
set_option maxHeartbeats 4000000 in
theorem find_ok (l : List F) (n : Int) (hl : l.length ≤ 100) (hv : ∀ f ∈ l, fOk f) (hn : isI n) : Fn0 Tryz.prog 20 [slF l, .v (.int .i64 n)] (fpD (canF l) n) := by
  have hfi := files_ok l hl hv
  have hcl := canF_len hv
  have hcas := casesL_ok (canF l)
  have hcsl := casesL_len (canF l)
  rw [filesD] at hfi
  generalize canF l = c at hfi hcl hcas hcsl
  refine Fun.of_wp (pn := noPn) Tryz.tab Tryz.func20 rfl fun β0 => ?_
  simp only [Tryz.f20]
  repeat (first | refine wS ?_ | refine wB ?_ | ((first | refine wR ?_ | refine wD ?_); simp -dsimp) | refine aI ?_)
  refine vcStop.call0 Tryz.body24 hfi rfl rfl (by simp) ?_
  simp -dsimp
  repeat (first | refine wS ?_ | refine wB ?_ | ((first | refine wR ?_ | refine wD ?_); simp -dsimp) | refine aI ?_)
  refine vcStop.call Tryz.body31 (indexP_ok c (casesL c) n (by omega)) (rl [(1000, 3)]) rfl rfl (by simp [BoxLeq]) (CallOk.of (by simp [BoxLeq]) rfl (by first | rfl | (simp [BoxLeq]; done)) (by simp [BoxLeq]) (by simp [BoxLeq])) (fun _ h => h.elim) (fun ⟨_, h⟩ => h.elim) (fun ⟨_, h⟩ => h.elim) (by simp [BoxLeq]) ?_
  simp -dsimp
  repeat (first | refine wS ?_ | refine wB ?_ | ((first | refine wR ?_ | refine wD ?_); simp -dsimp) | refine aI ?_)
  by_cases hin : n ∈ casesL c
  · obtain ⟨l1, l2, h12, hidx⟩ := idxN_some c n (casesL c) 0 hin
    have hil : l1.length < (casesL c).length := by rw [h12]; simp
    have h1 := fpL_at c hil
    have h2 := fpL_atA c hil
    have h3 := fpL_atL c hil
    have hx : (casesL c)[l1.length] = n := by rw [List.getElem_of_eq h12]; simp
    rw [hx] at h1 h2 h3
    rw [hidx]
    refine WP.cond (b := true) (by simp) (fun _ => ?_) (fun h => by cases h)
    repeat (first | refine wS ?_ | refine wB ?_ | ((first | refine wR ?_ | refine wD ?_); simp -dsimp [h1, h2, h3]) | refine aI ?_)
    refine WP.ret (finQ.retE ?_)
    simp -dsimp
  · rw [idxN_none n _ 0 hin]
    refine WP.cond (b := false) (by simp) (fun h => by cases h) (fun _ => ?_)
    refine WP.skip ?_
    simp -dsimp
    repeat (first | refine wS ?_ | refine wB ?_ | ((first | refine wR ?_ | refine wD ?_); simp -dsimp) | refine aI ?_)
    have hcn : ∀ f ∈ c, caseF f ≠ some n := fun f hf e => hin ((hcas.mem n).2 ⟨f, hf, e⟩)
    refine WP.weak (Wk.trans (Wk.lessE [3] (S' := mkS 21 [(4, .ptr 20 0)] [(20, .cells 75 (fileNew n))]) (by simp) (by simp)) (Wk.bunNew 600 (by simp))) ?_
    refine WP.opn (Opn.pushC 20 600 (T := 75) (cs := fileNew n) (l := []) rfl rfl (by decide) (by decide) (fun _ h => by cases h) (fun _ => rfl) (fun p => (mkS 21 [(4, .d (.v (ptrV p 0)))] []).sl) (fun p => []) (fun p => by simp [PLeL]) (fun p => by simp [PLeBx]) (fun p => ⟨by simp, by simp⟩)) fun p => ?_
    have hk1 : ∀ q ∈ [((ptrV p 0, Box.cells 75 (fileNew n)) : Value × Box)], Clo q.2 := fun q hq => by rw [List.mem_singleton] at hq; subst hq; exact ⟨rfl, fun _ => rfl⟩
    have hk2 : ∀ q ∈ [((nilV, Box.row 62 57 0 []) : Value × Box), (ptrV p 0, Box.cells 75 (fileNew n))], Clo q.2 := fun q hq => by
      rcases List.mem_cons.1 hq with rfl | hq
      · exact ⟨rfl, fun _ => rfl⟩
      · exact hk1 q hq
    have hk3 : ∀ q ∈ [((nilV, Box.row 54 4 0 []) : Value × Box), (nilV, Box.row 62 57 0 []), (ptrV p 0, Box.cells 75 (fileNew n))], Clo q.2 := fun q hq => by
      rcases List.mem_cons.1 hq with rfl | hq
      · exact ⟨rfl, fun _ => rfl⟩
      · exact hk2 q hq
    refine WP.weak (Wk.bunNil 600 62 57 (l := [(ptrV p 0, Box.cells 75 (fileNew n))]) rfl (by decide) hk1 [] (by simp [subB]) (by simp) (by simp)) ?_
    refine WP.weak (Wk.bunNil 600 54 4 (l := [(nilV, Box.row 62 57 0 []), (ptrV p 0, Box.cells 75 (fileNew n))]) rfl (by decide) hk2 [] (by simp [subB]) (by simp) (by simp)) ?_
    have h1 : ∀ i, c.filter (isRul n i) = [] := fun i => List.filter_eq_nil_iff.2 fun f hf h => hcn f hf (rul_case h)
    have h2 : c.filter (isRep n) = [] := List.filter_eq_nil_iff.2 fun f hf h => hcn f hf (rep_case h)
    have h3 : c.any (isApp n) = false := by
      rw [← Bool.not_eq_true, List.any_eq_true]
      rintro ⟨f, hf, h⟩
      exact hcn f hf (app_case h)
    have hfd : FD [(nilV, Box.row 54 4 0 []), (nilV, Box.row 62 57 0 []), (ptrV p 0, Box.cells 75 (fileNew n))] (.v (ptrV p 0)) (fpD c n) := by
      have h0 : (ptrV p 0, Box.cells 75 (([.v (.int .i64 n), nilD, nilD, nilD, nilD, .v (.bool false)] : List D).map .d)) ∈ [((nilV, Box.row 54 4 0 []) : Value × Box), (nilV, Box.row 62 57 0 []), (ptrV p 0, Box.cells 75 (fileNew n))] := by simp
      rw [fpD, fileC, h1, h1, h2, h3]
      exact FD.ip h0 ⟨.refl _ _, .refl _ _, FD.sl (T := 62) (ds := []) (by simp), FD.sl (T := 62) (ds := []) (by simp), FD.sl (T := 54) (ds := []) (by simp), .refl _ _, trivial⟩
    refine WP.weak (Wk.melt 600 (l := [(nilV, Box.row 54 4 0 []), (nilV, Box.row 62 57 0 []), (ptrV p 0, Box.cells 75 (fileNew n))]) rfl hk3 (mkS 21 [(4, .d (fpD c n))] []).sl [] ?_ trivial) ?_
    · simp [FLeL]
      exact fun w I β u hf hu => hfd w I u hf hu
    simp -dsimp
    refine WP.ret (finQ.retE ?_)
    simp -dsimp
theorem of_ok (l : List F) (n : Int) (hl : l.length ≤ 100) (hv : ∀ f ∈ l, fOk f) (hn : isI n) : Fn0 Tryz.prog 6 [slF l, .v (.int .i64 n)] (forceD (forceO (fileOf (canF l) n))) := by
  have h1 := find_ok l n hl hv hn
  have h2 := force_ok (canF l) n (Nat.le_trans (canF_len hv) hl)
  generalize canF l = c at h1 h2
  generalize forceO (fileOf c n) = o at h2
  refine Fun.of_wp (pn := noPn) Tryz.tab Tryz.func6 rfl fun β0 => ?_
  simp only [Tryz.f6]
  repeat (first | refine wS ?_ | refine wB ?_ | ((first | refine wR ?_ | refine wD ?_); simp -dsimp) | refine aI ?_)
  refine vcStop.call0 Tryz.body20 h1 rfl rfl (by simp) ?_
  simp -dsimp
  repeat (first | refine wS ?_ | refine wB ?_ | ((first | refine wR ?_ | refine wD ?_); simp -dsimp) | refine aI ?_)
  refine vcStop.call0 Tryz.body21 h2 rfl rfl (by simp) ?_
  cases o with
  | none =>
    rw [forceD]
    simp -dsimp
    repeat (first | refine wS ?_ | refine wB ?_ | ((first | refine wR ?_ | refine wD ?_); simp -dsimp) | refine aI ?_)
    refine WP.ret (finQ.retE ?_)
    simp -dsimp [ru0]
  | some f =>
    rw [forceD, ruD]
    simp -dsimp
    repeat (first | refine wS ?_ | refine wB ?_ | ((first | refine wR ?_ | refine wD ?_); simp -dsimp) | refine aI ?_)
    refine WP.ret (finQ.retE ?_)
    simp -dsimp [forceD, ruD]
theorem suspended_ok (l : List F) (n : Int) (hl : l.length ≤ 100) (hv : ∀ f ∈ l, fOk f) (hn : isI n) : Fn0 Tryz.prog 11 [slF l, .v (.int .i64 n)] (.v (.bool (susB (fileOf (canF l) n)))) := by
  have h1 := find_ok l n hl hv hn
  have h2 := susp_ok (canF l) n
  generalize canF l = c at h1 h2
  refine Fun.of_wp (pn := noPn) Tryz.tab Tryz.func11 rfl fun β0 => ?_
  simp only [Tryz.f11]
  repeat (first | refine wS ?_ | refine wB ?_ | ((first | refine wR ?_ | refine wD ?_); simp -dsimp) | refine aI ?_)
  refine vcStop.call0 Tryz.body20 h1 rfl rfl (by simp) ?_
  simp -dsimp
  repeat (first | refine wS ?_ | refine wB ?_ | ((first | refine wR ?_ | refine wD ?_); simp -dsimp) | refine aI ?_)
  refine vcStop.call0 Tryz.body26 h2 rfl rfl (by simp) ?_
  simp -dsimp
  repeat (first | refine wS ?_ | refine wB ?_ | ((first | refine wR ?_ | refine wD ?_); simp -dsimp) | refine aI ?_)
  refine WP.ret (finQ.retE ?_)
  simp -dsimp
end Go.Proofs.YtjjaabidbeoomaaGreatDoor
