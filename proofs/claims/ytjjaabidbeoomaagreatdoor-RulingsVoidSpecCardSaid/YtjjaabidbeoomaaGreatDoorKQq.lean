/-
  Rulings: the chapter's examples hold.
-/
import Derived.Test.YtjjaabidbeoomaaGreatDoorKE
set_option linter.unusedSectionVars false
set_option linter.unusedSimpArgs false
set_option linter.unusedVariables false
namespace Go.Proofs.YtjjaabidbeoomaaGreatDoor
open Go.Xe Go.RowKit

theorem ruled_ok (a b c : Int) : Fn0 Tryz.prog 19 [.v (.int .i64 a), .v (.int .i64 b), .v (.int .i64 c)] (fD (ruF a b c)) := by
  refine Fun.of_wp (pn := noPn) Tryz.tab Tryz.func19 rfl fun β0 => ?_
  simp only [Tryz.f19]
  repeat (first | refine wS ?_ | refine wB ?_ | ((first | refine wR ?_ | refine wD ?_); simp -dsimp) | refine aI ?_)
  refine WP.ret (finQ.retE ?_)
  simp -dsimp [fD]
  exact Leq.aggD (fcs (ruF a b c) 0 57)
set_option maxRecDepth 10000 in
theorem apLit : ([.d (.v (.int .i64 0)), .d (.v (.int .i64 4)), .d (.v (.int .i64 4)), .d (.v (.int .i64 11)), .d (.v (.int .i64 0)), .d (.v (.int .i64 0)), .d (.v (.int .i64 0)), .d (.v (.int .i64 0)), .d (.v (.int .i64 0)), .d (.v (.int .i64 0)), .d (.v (.int .i64 0)), .d (.v (.int .i64 0)), .d (.v (.int .i64 0)), .d (.v (.int .i64 0)), .d (.v (.int .i64 0)), .d (.v (.int .i64 0)), .d (.v (.int .i64 0)), .d (.v (.int .i64 0)), .d (.v (.int .i64 0)), .d (.v (.int .i64 0)), .d (.v (.int .i64 0)), .d (.v (.int .i64 0)), .d (.v (.int .i64 0)), .d (.v (.int .i64 0)), .d (.v (.int .i64 0)), .d (.v (.int .i64 0)), .d (.v (.int .i64 0)), .d (.v (.int .i64 0)), .d (.v (.int .i64 0)), .d (.v (.int .i64 0)), .d (.v (.int .i64 0)), .d (.v (.int .i64 0)), .d (.v (.int .i64 0)), .d (.v (.int .i64 0)), .d (.v (.int .i64 0)), .d (.v (.int .i64 0)), .d (.v (.int .i64 0)), .d (.v (.int .i64 0)), .d (.v (.int .i64 0)), .d (.v (.int .i64 0)), .d (.v (.int .i64 0)), .d (.v (.int .i64 0)), .d (.v (.int .i64 0)), .d (.v (.int .i64 0)), .d (.v (.int .i64 0)), .d (.v (.int .i64 0)), .d (.v (.int .i64 0)), .d (.v (.int .i64 0)), .d (.v (.int .i64 0)), .d (.v (.int .i64 0)), .d (.v (.int .i64 0)), .d (.v (.int .i64 0)), .d (.v (.int .i64 0)), .d (.v (.int .i64 7)), .d (.v (.bool true)), .d (.v (.int .i64 0)), .d (.v (.int .i64 0))] : List AV) = (fcs apF 0 57).map .d := rfl
set_option maxRecDepth 10000 in
theorem rpLit : ([.d (.v (.int .i64 0)), .d (.v (.int .i64 5)), .d (.v (.int .i64 5)), .d (.v (.int .i64 8)), .d (.v (.int .i64 0)), .d (.v (.int .i64 0)), .d (.v (.int .i64 0)), .d (.v (.int .i64 0)), .d (.v (.int .i64 0)), .d (.v (.int .i64 0)), .d (.v (.int .i64 0)), .d (.v (.int .i64 0)), .d (.v (.int .i64 0)), .d (.v (.int .i64 0)), .d (.v (.int .i64 0)), .d (.v (.int .i64 0)), .d (.v (.int .i64 0)), .d (.v (.int .i64 0)), .d (.v (.int .i64 0)), .d (.v (.int .i64 0)), .d (.v (.int .i64 0)), .d (.v (.int .i64 0)), .d (.v (.int .i64 0)), .d (.v (.int .i64 0)), .d (.v (.int .i64 0)), .d (.v (.int .i64 0)), .d (.v (.int .i64 0)), .d (.v (.int .i64 0)), .d (.v (.int .i64 0)), .d (.v (.int .i64 0)), .d (.v (.int .i64 0)), .d (.v (.int .i64 0)), .d (.v (.int .i64 0)), .d (.v (.int .i64 0)), .d (.v (.int .i64 0)), .d (.v (.int .i64 0)), .d (.v (.int .i64 0)), .d (.v (.int .i64 0)), .d (.v (.int .i64 0)), .d (.v (.int .i64 9)), .d (.v (.int .i64 3)), .d (.v (.int .i64 0)), .d (.v (.int .i64 0)), .d (.v (.int .i64 0)), .d (.v (.int .i64 0)), .d (.v (.int .i64 0)), .d (.v (.int .i64 0)), .d (.v (.int .i64 0)), .d (.v (.int .i64 0)), .d (.v (.int .i64 0)), .d (.v (.int .i64 0)), .d (.v (.int .i64 0)), .d (.v (.int .i64 0)), .d (.v (.int .i64 0)), .d (.v (.bool false)), .d (.v (.int .i64 0)), .d (.v (.int .i64 0))] : List AV) = (fcs rpF 0 57).map .d := rfl
set_option maxRecDepth 10000 in
theorem z114 : ([.d (.v (.int .i64 0)), .d (.v (.int .i64 0)), .d (.v (.int .i64 0)), .d (.v (.int .i64 0)), .d (.v (.int .i64 0)), .d (.v (.int .i64 0)), .d (.v (.int .i64 0)), .d (.v (.int .i64 0)), .d (.v (.int .i64 0)), .d (.v (.int .i64 0)), .d (.v (.int .i64 0)), .d (.v (.int .i64 0)), .d (.v (.int .i64 0)), .d (.v (.int .i64 0)), .d (.v (.int .i64 0)), .d (.v (.int .i64 0)), .d (.v (.int .i64 0)), .d (.v (.int .i64 0)), .d (.v (.int .i64 0)), .d (.v (.int .i64 0)), .d (.v (.int .i64 0)), .d (.v (.int .i64 0)), .d (.v (.int .i64 0)), .d (.v (.int .i64 0)), .d (.v (.int .i64 0)), .d (.v (.int .i64 0)), .d (.v (.int .i64 0)), .d (.v (.int .i64 0)), .d (.v (.int .i64 0)), .d (.v (.int .i64 0)), .d (.v (.int .i64 0)), .d (.v (.int .i64 0)), .d (.v (.int .i64 0)), .d (.v (.int .i64 0)), .d (.v (.int .i64 0)), .d (.v (.int .i64 0)), .d (.v (.int .i64 0)), .d (.v (.int .i64 0)), .d (.v (.int .i64 0)), .d (.v (.int .i64 0)), .d (.v (.int .i64 0)), .d (.v (.int .i64 0)), .d (.v (.int .i64 0)), .d (.v (.int .i64 0)), .d (.v (.int .i64 0)), .d (.v (.int .i64 0)), .d (.v (.int .i64 0)), .d (.v (.int .i64 0)), .d (.v (.int .i64 0)), .d (.v (.int .i64 0)), .d (.v (.int .i64 0)), .d (.v (.int .i64 0)), .d (.v (.int .i64 0)), .d (.v (.int .i64 0)), .d (.v (.bool false)), .d (.v (.int .i64 0)), .d (.v (.int .i64 0)), .d (.v (.int .i64 0)), .d (.v (.int .i64 0)), .d (.v (.int .i64 0)), .d (.v (.int .i64 0)), .d (.v (.int .i64 0)), .d (.v (.int .i64 0)), .d (.v (.int .i64 0)), .d (.v (.int .i64 0)), .d (.v (.int .i64 0)), .d (.v (.int .i64 0)), .d (.v (.int .i64 0)), .d (.v (.int .i64 0)), .d (.v (.int .i64 0)), .d (.v (.int .i64 0)), .d (.v (.int .i64 0)), .d (.v (.int .i64 0)), .d (.v (.int .i64 0)), .d (.v (.int .i64 0)), .d (.v (.int .i64 0)), .d (.v (.int .i64 0)), .d (.v (.int .i64 0)), .d (.v (.int .i64 0)), .d (.v (.int .i64 0)), .d (.v (.int .i64 0)), .d (.v (.int .i64 0)), .d (.v (.int .i64 0)), .d (.v (.int .i64 0)), .d (.v (.int .i64 0)), .d (.v (.int .i64 0)), .d (.v (.int .i64 0)), .d (.v (.int .i64 0)), .d (.v (.int .i64 0)), .d (.v (.int .i64 0)), .d (.v (.int .i64 0)), .d (.v (.int .i64 0)), .d (.v (.int .i64 0)), .d (.v (.int .i64 0)), .d (.v (.int .i64 0)), .d (.v (.int .i64 0)), .d (.v (.int .i64 0)), .d (.v (.int .i64 0)), .d (.v (.int .i64 0)), .d (.v (.int .i64 0)), .d (.v (.int .i64 0)), .d (.v (.int .i64 0)), .d (.v (.int .i64 0)), .d (.v (.int .i64 0)), .d (.v (.int .i64 0)), .d (.v (.int .i64 0)), .d (.v (.int .i64 0)), .d (.v (.int .i64 0)), .d (.v (.int .i64 0)), .d (.v (.int .i64 0)), .d (.v (.int .i64 0)), .d (.v (.bool false)), .d (.v (.int .i64 0)), .d (.v (.int .i64 0))] : List AV) = (fsC [f0, f0]).map .d := rfl
set_option maxRecDepth 10000 in
theorem z171 : ([.d (.v (.int .i64 0)), .d (.v (.int .i64 0)), .d (.v (.int .i64 0)), .d (.v (.int .i64 0)), .d (.v (.int .i64 0)), .d (.v (.int .i64 0)), .d (.v (.int .i64 0)), .d (.v (.int .i64 0)), .d (.v (.int .i64 0)), .d (.v (.int .i64 0)), .d (.v (.int .i64 0)), .d (.v (.int .i64 0)), .d (.v (.int .i64 0)), .d (.v (.int .i64 0)), .d (.v (.int .i64 0)), .d (.v (.int .i64 0)), .d (.v (.int .i64 0)), .d (.v (.int .i64 0)), .d (.v (.int .i64 0)), .d (.v (.int .i64 0)), .d (.v (.int .i64 0)), .d (.v (.int .i64 0)), .d (.v (.int .i64 0)), .d (.v (.int .i64 0)), .d (.v (.int .i64 0)), .d (.v (.int .i64 0)), .d (.v (.int .i64 0)), .d (.v (.int .i64 0)), .d (.v (.int .i64 0)), .d (.v (.int .i64 0)), .d (.v (.int .i64 0)), .d (.v (.int .i64 0)), .d (.v (.int .i64 0)), .d (.v (.int .i64 0)), .d (.v (.int .i64 0)), .d (.v (.int .i64 0)), .d (.v (.int .i64 0)), .d (.v (.int .i64 0)), .d (.v (.int .i64 0)), .d (.v (.int .i64 0)), .d (.v (.int .i64 0)), .d (.v (.int .i64 0)), .d (.v (.int .i64 0)), .d (.v (.int .i64 0)), .d (.v (.int .i64 0)), .d (.v (.int .i64 0)), .d (.v (.int .i64 0)), .d (.v (.int .i64 0)), .d (.v (.int .i64 0)), .d (.v (.int .i64 0)), .d (.v (.int .i64 0)), .d (.v (.int .i64 0)), .d (.v (.int .i64 0)), .d (.v (.int .i64 0)), .d (.v (.bool false)), .d (.v (.int .i64 0)), .d (.v (.int .i64 0)), .d (.v (.int .i64 0)), .d (.v (.int .i64 0)), .d (.v (.int .i64 0)), .d (.v (.int .i64 0)), .d (.v (.int .i64 0)), .d (.v (.int .i64 0)), .d (.v (.int .i64 0)), .d (.v (.int .i64 0)), .d (.v (.int .i64 0)), .d (.v (.int .i64 0)), .d (.v (.int .i64 0)), .d (.v (.int .i64 0)), .d (.v (.int .i64 0)), .d (.v (.int .i64 0)), .d (.v (.int .i64 0)), .d (.v (.int .i64 0)), .d (.v (.int .i64 0)), .d (.v (.int .i64 0)), .d (.v (.int .i64 0)), .d (.v (.int .i64 0)), .d (.v (.int .i64 0)), .d (.v (.int .i64 0)), .d (.v (.int .i64 0)), .d (.v (.int .i64 0)), .d (.v (.int .i64 0)), .d (.v (.int .i64 0)), .d (.v (.int .i64 0)), .d (.v (.int .i64 0)), .d (.v (.int .i64 0)), .d (.v (.int .i64 0)), .d (.v (.int .i64 0)), .d (.v (.int .i64 0)), .d (.v (.int .i64 0)), .d (.v (.int .i64 0)), .d (.v (.int .i64 0)), .d (.v (.int .i64 0)), .d (.v (.int .i64 0)), .d (.v (.int .i64 0)), .d (.v (.int .i64 0)), .d (.v (.int .i64 0)), .d (.v (.int .i64 0)), .d (.v (.int .i64 0)), .d (.v (.int .i64 0)), .d (.v (.int .i64 0)), .d (.v (.int .i64 0)), .d (.v (.int .i64 0)), .d (.v (.int .i64 0)), .d (.v (.int .i64 0)), .d (.v (.int .i64 0)), .d (.v (.int .i64 0)), .d (.v (.int .i64 0)), .d (.v (.int .i64 0)), .d (.v (.int .i64 0)), .d (.v (.int .i64 0)), .d (.v (.bool false)), .d (.v (.int .i64 0)), .d (.v (.int .i64 0)), .d (.v (.int .i64 0)), .d (.v (.int .i64 0)), .d (.v (.int .i64 0)), .d (.v (.int .i64 0)), .d (.v (.int .i64 0)), .d (.v (.int .i64 0)), .d (.v (.int .i64 0)), .d (.v (.int .i64 0)), .d (.v (.int .i64 0)), .d (.v (.int .i64 0)), .d (.v (.int .i64 0)), .d (.v (.int .i64 0)), .d (.v (.int .i64 0)), .d (.v (.int .i64 0)), .d (.v (.int .i64 0)), .d (.v (.int .i64 0)), .d (.v (.int .i64 0)), .d (.v (.int .i64 0)), .d (.v (.int .i64 0)), .d (.v (.int .i64 0)), .d (.v (.int .i64 0)), .d (.v (.int .i64 0)), .d (.v (.int .i64 0)), .d (.v (.int .i64 0)), .d (.v (.int .i64 0)), .d (.v (.int .i64 0)), .d (.v (.int .i64 0)), .d (.v (.int .i64 0)), .d (.v (.int .i64 0)), .d (.v (.int .i64 0)), .d (.v (.int .i64 0)), .d (.v (.int .i64 0)), .d (.v (.int .i64 0)), .d (.v (.int .i64 0)), .d (.v (.int .i64 0)), .d (.v (.int .i64 0)), .d (.v (.int .i64 0)), .d (.v (.int .i64 0)), .d (.v (.int .i64 0)), .d (.v (.int .i64 0)), .d (.v (.int .i64 0)), .d (.v (.int .i64 0)), .d (.v (.int .i64 0)), .d (.v (.int .i64 0)), .d (.v (.int .i64 0)), .d (.v (.int .i64 0)), .d (.v (.int .i64 0)), .d (.v (.int .i64 0)), .d (.v (.int .i64 0)), .d (.v (.int .i64 0)), .d (.v (.int .i64 0)), .d (.v (.int .i64 0)), .d (.v (.int .i64 0)), .d (.v (.int .i64 0)), .d (.v (.bool false)), .d (.v (.int .i64 0)), .d (.v (.int .i64 0))] : List AV) = (fsC [f0, f0, f0]).map .d := rfl
theorem build2 (a b : F) : setL (setL ((fsC [f0, f0]).map AV.d) 0 ((fcs a 0 57).map .d)) 57 ((fcs b 0 57).map .d) = (fsC [a, b]).map AV.d := by
  have h1 := fsC_set (l := [f0, f0]) (i := 0) (by simp) a
  have h2 := fsC_set (l := [a, f0]) (i := 1) (by simp) b
  simp only [Nat.zero_mul, List.set_cons_zero, List.set_cons_succ] at h1 h2
  rw [h1]
  exact h2
theorem build3 (a b c : F) : setL (setL (setL ((fsC [f0, f0, f0]).map AV.d) 0 ((fcs a 0 57).map .d)) 57 ((fcs b 0 57).map .d)) 114 ((fcs c 0 57).map .d) = (fsC [a, b, c]).map AV.d := by
  have h1 := fsC_set (l := [f0, f0, f0]) (i := 0) (by simp) a
  have h2 := fsC_set (l := [a, f0, f0]) (i := 1) (by simp) b
  have h3 := fsC_set (l := [a, b, f0]) (i := 2) (by simp) c
  simp only [Nat.zero_mul, List.set_cons_zero, List.set_cons_succ] at h1 h2 h3
  rw [h1]
  exact (congrArg (fun x => setL x 114 ((fcs c 0 57).map AV.d)) h2).trans h3
set_option maxRecDepth 10000 in
set_option maxHeartbeats 4000000 in
theorem sane_ok : Fn0 Tryz.prog 5 [] (.v (.bool true)) := by
  have hA := ruled_ok 1 1 1
  have hB := ruled_ok 2 1 2
  have hC := ruled_ok 3 2 2
  have i7 : isI 7 := isI_s (by decide) (by decide)
  have v1 : ∀ f ∈ [rA, apF], fOk f := fun f hf => by
    simp only [List.mem_cons, List.not_mem_nil, or_false] at hf
    rcases hf with rfl | rfl
    · exact rA_ok
    · exact apF_ok
  have v2 : ∀ f ∈ [apF, rC, rA], fOk f := fun f hf => by
    simp only [List.mem_cons, List.not_mem_nil, or_false] at hf
    rcases hf with rfl | rfl | rfl
    · exact apF_ok
    · exact rC_ok
    · exact rA_ok
  have v3 : ∀ f ∈ [rB2, rA], fOk f := fun f hf => by
    simp only [List.mem_cons, List.not_mem_nil, or_false] at hf
    rcases hf with rfl | rfl
    · exact rB2_ok
    · exact rA_ok
  have v5 : ∀ f ∈ [rpF, rA], fOk f := fun f hf => by
    simp only [List.mem_cons, List.not_mem_nil, or_false] at hf
    rcases hf with rfl | rfl
    · exact rpF_ok
    · exact rA_ok
  have v6 : ∀ f ∈ [rA, rpF], fOk f := fun f hf => by
    simp only [List.mem_cons, List.not_mem_nil, or_false] at hf
    rcases hf with rfl | rfl
    · exact rA_ok
    · exact rpF_ok
  have v7 : ∀ f ∈ [apF], fOk f := fun f hf => by rw [List.mem_singleton] at hf; subst hf; exact apF_ok
  have o1 : Fun Tryz.prog 6 [.row 1000, .d (.v (.int .i64 7))] [(1000, .row 62 57 2 ((fsC [rA, apF]).map .d))] (.d (forceD none)) [] fun _ => False := by
    have h := of_ok [rA, apF] 7 (by simp) v1 i7
    rw [of1] at h
    exact Fun.ofRow 1000 (T := 62) (cs := fsC [rA, apF]) h rfl (by simp [frzL, frz]) trivial
  have o2 : Fun Tryz.prog 6 [.row 1000, .d (.v (.int .i64 7))] [(1000, .row 62 57 3 ((fsC [apF, rC, rA]).map .d))] (.d (forceD (some rC))) [] fun _ => False := by
    have h := of_ok [apF, rC, rA] 7 (by simp) v2 i7
    rw [of2] at h
    exact Fun.ofRow 1000 (T := 62) (cs := fsC [apF, rC, rA]) h rfl (by simp [frzL, frz]) trivial
  have o3 : Fun Tryz.prog 6 [.row 1000, .d (.v (.int .i64 7))] [(1000, .row 62 57 2 ((fsC [rB2, rA]).map .d))] (.d (forceD (some rA))) [] fun _ => False := by
    have h := of_ok [rB2, rA] 7 (by simp) v3 i7
    rw [of3] at h
    exact Fun.ofRow 1000 (T := 62) (cs := fsC [rB2, rA]) h rfl (by simp [frzL, frz]) trivial
  have o4 : Fun Tryz.prog 14 [.row 1000] [(1000, .row 62 57 2 ((fsC [rB2, rA]).map .d))] (.d (.sl 2 (fcs rB2 0 2) 1 false)) [] fun _ => False := by
    have h := void_ok [rB2, rA] (by simp) v3
    rw [void4] at h
    have h' : Fn0 Tryz.prog 14 [.sl 57 (fsC [rB2, rA]) 2 false] (.sl 2 (fcs rB2 0 2) 1 false) := by simpa [prt] using h
    exact Fun.ofRow 1000 (T := 62) (cs := fsC [rB2, rA]) h' rfl (by simp [frzL, frz]) trivial
  have o5 : Fun Tryz.prog 17 [.row 1000] [(1000, .row 62 57 2 ((fsC [rpF, rA]).map .d))] (.d (.sl 4 (fcs rpF 39 4) 1 false)) [] fun _ => False := by
    have h := reports_ok [rpF, rA] (by simp) v5
    rw [rep5] at h
    have h' : Fn0 Tryz.prog 17 [.sl 57 (fsC [rpF, rA]) 2 false] (.sl 4 (fcs rpF 39 4) 1 false) := by simpa [prt] using h
    exact Fun.ofRow 1000 (T := 62) (cs := fsC [rpF, rA]) h' rfl (by simp [frzL, frz]) trivial
  have o6 : Fn0 Tryz.prog 11 [.sl 57 (fcs rA 0 57 ++ fcs apF 0 57) 2 false, .v (.int .i64 7)] (.v (.bool true)) := by
    have h := suspended_ok [rA, apF] 7 (by simp) v1 i7
    rw [sus6] at h
    simpa [fsC] using h
  have o7 : Fn0 Tryz.prog 13 [.sl 2 (fcs rB2 0 2) 1 false, .sl 2 (fcs rB2 0 2) 1 false] (.v (.bool true)) := by
    have h := same47_ok [rB2] (by simp) (fun f hf => by rw [List.mem_singleton] at hf; subst hf; exact rB2_ok)
    simpa [prt] using h
  have o8 : Fn0 Tryz.prog 9 [.sl 57 (fcs rA 0 57 ++ fcs rpF 0 57) 2 false] (.sl 6 (fcs rA 47 6) 1 false) := by
    have h := all_ok [rA, rpF] (by simp) v6
    rw [all7] at h
    simpa [fsC, prt] using h
  have o9 : Fn0 Tryz.prog 11 [.sl 57 (fcs apF 0 57) 1 false, .v (.int .i64 7)] (.v (.bool false)) := by
    have h := suspended_ok [apF] 7 (by simp) v7 i7
    rw [sus8] at h
    simpa [fsC] using h
  have rp0 : fup (fup rpF 41 0) 42 0 = rpF := by
    funext i
    simp only [fup, rpF]
    repeat' split
    all_goals first | rfl | omega
  have q1 : rC 48 = 2 := rfl
  have q2 : rA 49 = 1 := rfl
  have q3 : rpF 39 = 9 := rfl
  clear v1 v2 v3 v5 v6 v7 i7
  refine Fun.of_wp (pn := noPn) Tryz.tab Tryz.func5 rfl fun β0 => ?_
  simp only [Tryz.f5]
  repeat (first | refine wS ?_ | refine wB ?_ | ((first | refine wR ?_ | refine wD ?_); simp -dsimp) | refine aI ?_)
  refine vcStop.call0 Tryz.body19 hA rfl rfl (by simp) ?_
  simp -dsimp [fD]
  repeat refine aI ?_
  refine vcStop.call0 Tryz.body19 hB rfl rfl (by simp) ?_
  simp -dsimp [fD]
  repeat refine aI ?_
  refine vcStop.call0 Tryz.body19 hC rfl rfl (by simp) ?_
  simp -dsimp [fD]
  repeat (first | refine wS ?_ | refine wB ?_ | ((first | refine wR ?_ | refine wD ?_); simp -dsimp [apLit, rpLit, rp0, z114, build2]) | refine aI ?_)
  refine vcStop.call Tryz.body6 (o1) (rl [(1000, 24)]) rfl rfl (by simp [BoxLeq]) (CallOk.of (by simp [BoxLeq]) rfl (by first | rfl | (simp [BoxLeq]; done)) (by simp [BoxLeq]) (by simp [BoxLeq])) (fun _ h => h.elim) (fun ⟨_, h⟩ => h.elim) (fun ⟨_, h⟩ => h.elim) (by simp [BoxLeq]) ?_
  simp -dsimp [forceD, ru0]
  repeat (first | refine wS ?_ | refine wB ?_ | ((first | refine wR ?_ | refine wD ?_); simp -dsimp [apLit, rpLit, z171, build3]) | refine aI ?_)
  refine vcStop.call Tryz.body6 (o2) (rl [(1000, 32)]) rfl rfl (by simp [BoxLeq]) (CallOk.of (by simp [BoxLeq]) rfl (by first | rfl | (simp [BoxLeq]; done)) (by simp [BoxLeq]) (by simp [BoxLeq])) (fun _ h => h.elim) (fun ⟨_, h⟩ => h.elim) (fun ⟨_, h⟩ => h.elim) (by simp [BoxLeq]) ?_
  simp -dsimp [forceD, ruD]
  repeat (first | refine wS ?_ | refine wB ?_ | ((first | refine wR ?_ | refine wD ?_); simp -dsimp [apLit, rpLit, z114, build2]) | refine aI ?_)
  refine vcStop.call Tryz.body6 (o3) (rl [(1000, 39)]) rfl rfl (by simp [BoxLeq]) (CallOk.of (by simp [BoxLeq]) rfl (by first | rfl | (simp [BoxLeq]; done)) (by simp [BoxLeq]) (by simp [BoxLeq])) (fun _ h => h.elim) (fun ⟨_, h⟩ => h.elim) (fun ⟨_, h⟩ => h.elim) (by simp [BoxLeq]) ?_
  simp -dsimp [forceD, ruD]
  repeat (first | refine wS ?_ | refine wB ?_ | ((first | refine wR ?_ | refine wD ?_); simp -dsimp [apLit, rpLit, z114, build2]) | refine aI ?_)
  refine vcStop.call Tryz.body14 (o4) (rl [(1000, 45)]) rfl rfl (by simp [BoxLeq]) (CallOk.of (by simp [BoxLeq]) rfl (by first | rfl | (simp [BoxLeq]; done)) (by simp [BoxLeq]) (by simp [BoxLeq])) (fun _ h => h.elim) (fun ⟨_, h⟩ => h.elim) (fun ⟨_, h⟩ => h.elim) (by simp [BoxLeq]) ?_
  simp -dsimp
  repeat (first | refine wS ?_ | refine wB ?_ | ((first | refine wR ?_ | refine wD ?_); simp -dsimp [apLit, rpLit, z114, build2]) | refine aI ?_)
  refine vcStop.call Tryz.body17 (o5) (rl [(1000, 49)]) rfl rfl (by simp [BoxLeq]) (CallOk.of (by simp [BoxLeq]) rfl (by first | rfl | (simp [BoxLeq]; done)) (by simp [BoxLeq]) (by simp [BoxLeq])) (fun _ h => h.elim) (fun ⟨_, h⟩ => h.elim) (fun ⟨_, h⟩ => h.elim) (by simp [BoxLeq]) ?_
  simp -dsimp
  repeat (first | refine wS ?_ | refine wB ?_ | ((first | refine wR ?_ | refine wD ?_); simp -dsimp) | refine aI ?_)
  refine vcStopG.buildData Tryz.tab (ds := fcs rA 0 57 ++ fcs apF 0 57) rfl rfl rfl rfl (LeqL.refl _) (by decide) (by decide) (by simp [fcs_length, setL_length]; exact ⟨fun _ h => fcs_side h, fun _ h => fcs_side h⟩) ?_
  simp -dsimp
  repeat (first | refine wS ?_ | refine wB ?_ | ((first | refine wR ?_ | refine wD ?_); simp -dsimp) | refine aI ?_)
  refine vcStopG.call0 Tryz.body11 (fun _ => o6) rfl (fun _ => rfl) (fun hg => by simp) ?_
  simp -dsimp
  repeat (first | refine wS ?_ | refine wB ?_ | ((first | refine wR ?_ | refine wD ?_); simp -dsimp [q1, q2]) | refine aI ?_)
  refine vcStopG.buildData Tryz.tab (ds := fcs rB2 0 2) rfl rfl rfl rfl (LeqL.refl _) (by decide) (by decide) (by simp) ?_
  simp -dsimp
  repeat (first | refine wS ?_ | refine wB ?_ | ((first | refine wR ?_ | refine wD ?_); simp -dsimp) | refine aI ?_)
  refine vcStopG.call0 Tryz.body13 (fun _ => o7) rfl (fun _ => rfl) (fun hg => by simp) ?_
  simp -dsimp
  repeat (first | refine wS ?_ | refine wB ?_ | ((first | refine wR ?_ | refine wD ?_); simp -dsimp [q3]) | refine aI ?_)
  refine vcStopG.buildData Tryz.tab (ds := fcs rA 0 57 ++ fcs rpF 0 57) rfl rfl rfl rfl (LeqL.refl _) (by decide) (by decide) (by simp [fcs_length, setL_length]; exact ⟨fun _ h => fcs_side h, fun _ h => fcs_side h⟩) ?_
  simp -dsimp
  repeat (first | refine wS ?_ | refine wB ?_ | ((first | refine wR ?_ | refine wD ?_); simp -dsimp) | refine aI ?_)
  refine vcStopG.call0 Tryz.body9 (fun _ => o8) rfl (fun _ => rfl) (fun hg => by simp) ?_
  simp -dsimp
  repeat (first | refine wS ?_ | refine wB ?_ | ((first | refine wR ?_ | refine wD ?_); simp -dsimp) | refine aI ?_)
  refine vcStopG.buildData Tryz.tab (ds := fcs apF 0 57) rfl rfl rfl rfl (LeqL.refl _) (by decide) (by decide) (by simp [fcs_length]; exact fun _ h => fcs_side h) ?_
  simp -dsimp
  repeat (first | refine wS ?_ | refine wB ?_ | ((first | refine wR ?_ | refine wD ?_); simp -dsimp) | refine aI ?_)
  refine vcStopG.call0 Tryz.body11 (fun _ => o9) rfl (fun _ => rfl) (fun hg => by simp) ?_
  simp -dsimp
  repeat (first | refine wS ?_ | refine wB ?_ | ((first | refine wR ?_ | refine wD ?_); simp -dsimp) | refine aI ?_)
  refine WP.ret (finQ.retE ?_)
  simp -dsimp
  rw [show (decide (rC 48 = 2) && decide (rA 49 = 1) && decide (rpF 39 = 9)) = true from by decide]
  exact Leq.refl _
end Go.Proofs.YtjjaabidbeoomaaGreatDoor
