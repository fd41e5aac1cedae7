/-
  Rulings: files in order.
-/
import Derived.Test.YtjjaabidbeoomaaGreatDoorKA
import Derived.Test.YtjjaabidbeoomaaGreatDoorKQe
set_option linter.unusedSectionVars false
set_option linter.unusedSimpArgs false
set_option linter.unusedVariables false
namespace Go.Proofs.YtjjaabidbeoomaaGreatDoor
open Go.Xe Go.RowKit

/-- A file, as data. -/
def fileC (c : List F) (n : Int) : List D := [.v (.int .i64 n), nilD, .sl 57 (fsC (c.filter (isRul n 1))) (c.filter (isRul n 1)).length false, .sl 57 (fsC (c.filter (isRul n 2))) (c.filter (isRul n 2)).length false,
  .sl 4 (repC (c.filter (isRep n))) (c.filter (isRep n)).length false, .v (.bool (c.any (isApp n)))]
@[simp] def fpD (c : List F) (n : Int) : D := .ip (fileC c n)
def keyD : D → Int
  | .ip (.v (.int _ n) :: _) => n
  | _ => 0
@[simp] theorem keyD_fp (c : List F) (n : Int) : keyD (fpD c n) = n := rfl
theorem cmpI_lt (a b : Int) : cmpI a b < 0 ↔ a < b := by
  unfold cmpI
  split
  · simp; omega
  · split <;> simp <;> omega
theorem cmpFile_ok (c : List F) (n m : Int) : Fn0 Tryz.prog 38 [fpD c n, fpD c m] (.v (.int .i64 (cmpI n m))) := by
  refine Fun.of_wp (pn := noPn) Tryz.tab Tryz.func38 rfl fun β0 => ?_
  simp only [Tryz.f38]
  simp only [fpD, fileC]
  repeat (first | refine wS ?_ | refine wB ?_ | ((first | refine wR ?_ | refine wD ?_); simp -dsimp) | refine aI ?_)
  refine vcStop.call0 Tryz.body39 (compare_ok n m) rfl rfl (by simp) ?_
  simp -dsimp
  repeat (first | refine wS ?_ | refine wB ?_ | ((first | refine wR ?_ | refine wD ?_); simp -dsimp) | refine aI ?_)
  refine WP.ret (finQ.retE ?_)
  simp -dsimp
abbrev cmpFD : D := .v (.func (.func 38) #[] #[])
theorem eqFile_ok (c : List F) (n m : Int) : Fun Tryz.prog 57 [.d (fpD c n), .d (fpD c m), .ptr 1000 0] [(1000, .cells 87 [.d cmpFD])] (.d (.v (.bool (decide (cmpI n m = 0))))) [(1000, .cells 87 [.d cmpFD])] fun _ => False := by
  refine Fun.of_wp (pn := noPn) Tryz.tab Tryz.func57 rfl fun β0 => ?_
  simp only [Tryz.f57]
  repeat (first | refine wS ?_ | refine wB ?_ | ((first | refine wR ?_ | refine wD ?_); simp -dsimp) | refine aI ?_)
  refine vcStop.call0 Tryz.body38 (cmpFile_ok c n m) rfl rfl (by simp) ?_
  simp -dsimp
  repeat (first | refine wS ?_ | refine wB ?_ | ((first | refine wR ?_ | refine wD ?_); simp -dsimp) | refine aI ?_)
  refine WP.ret (finQ.retE ?_)
  simp -dsimp
/-- Files, in a row. -/
def fpL (c : List F) (ns : List Int) : List D := ns.map (fpD c)
@[simp] theorem fpL_length (c : List F) (ns : List Int) : (fpL c ns).length = ns.length := by simp [fpL]
@[simp] theorem fpL_hasL (k : Nat) (c : List F) (ns : List Int) : AV.hasL k ((fpL c ns).map .d) = false := hasL_ds fun x h => by
  obtain ⟨d, _, rfl⟩ := List.mem_map.1 h; exact ⟨d, rfl⟩
theorem fpL_at (c : List F) {ns : List Int} {k : Nat} (h : k < ns.length) : ((fpL c ns).drop k).take 1 = [fpD c ns[k]] := by
  rw [fpL, ← List.map_drop, List.drop_eq_getElem_cons h]; rfl
theorem fpL_atA (c : List F) {ns : List Int} {k : Nat} (h : k < ns.length) : (((fpL c ns).map AV.d).drop k).take 1 = [.d (fpD c ns[k])] := by
  rw [← List.map_drop, ← List.map_take, fpL_at c h]; rfl
theorem fpL_atL (c : List F) {ns : List Int} {k : Nat} (h : k < ns.length) : atL ((fpL c ns).map AV.d) k = .d (fpD c ns[k]) := by
  rw [← atL_eq, List.getElem?_map, fpL, List.getElem?_map, List.getElem?_eq_getElem h]; rfl
abbrev rP (c : List F) (ns : List Int) : Box := .row 64 1 ns.length ((fpL c ns).map .d)
theorem sortFile_ok (c : List F) (ns ms : List Int) (hp : ms.Perm ns) (ha : AscI ms) (hl : ns.length ≤ 1000) : Fun Tryz.prog 55 [.row 1000, .d cmpFD] [(1000, rP c ns)] (.d .any) [(1000, rP c ms)] fun _ => False := by
  have h := Fun.sortFunc1 (ρ := fileSortIR) fileSortI_lay fileSort_lay keyD cmpI cmpI_lt (g := 38) (run_enterFn Tryz.body38) (ns.map (fpD c)) (ms.map (fpD c)) (fun x hx y hy => by
    obtain ⟨n, _, rfl⟩ := List.mem_map.1 hx
    obtain ⟨m, _, rfl⟩ := List.mem_map.1 hy
    exact cmpFile_ok c n m) (hp.map _) (by rw [List.pairwise_map]; exact ha) (by rw [List.length_map]; omega)
  rw [List.length_map] at h
  have e : ms.length = ns.length := hp.length_eq
  simp only [rP, e, fpL]
  exact h
abbrev eqP : AV := .fn (.func 57) [] [.ptr 1001 0]
abbrev cP : Box := .cells 87 [.d cmpFD]
theorem cloneP_ok (c : List F) (ns : List Int) (h0 : 0 < ns.length) (hl : ns.length ≤ 1000) : Fun Tryz.prog 54 [.row 1000] [(1000, rP c ns)] (.row 0) [(1000, rP c ns), (0, rP c ns)] fun _ => False := by
  refine Fun.of_wp (pn := noPn) Tryz.tab Tryz.func54 rfl fun β0 => ?_
  simp only [Tryz.f54]
  repeat (first | refine wS ?_ | refine wB ?_ | ((first | refine wR ?_ | refine wD ?_); simp -dsimp) | refine aI ?_)
  refine vcStop.eqNilRow Tryz.tab rfl rfl rfl rfl rfl h0 ?_
  simp -dsimp
  repeat (first | refine wS ?_ | refine wB ?_ | ((first | refine wR ?_ | refine wD ?_); simp -dsimp) | refine aI ?_)
  refine WP.cond (b := false) (by simp) (fun h => by cases h) (fun _ => ?_)
  refine WP.skip ?_
  simp -dsimp
  repeat (first | refine wS ?_ | refine wB ?_ | ((first | refine wR ?_ | refine wD ?_); simp -dsimp) | refine aI ?_)
  refine WP.ret (finQ.retWE (S' := mkS 8 [(2, .row 0)] [(1000, rP c ns), (0, rP c ns)]) (Wk.go [] 7 0 (by decide) (by simp) (by simp) (by simp)) ?_)
  simp -dsimp
set_option maxRecDepth 10000 in
set_option maxHeartbeats 4000000 in
theorem compactP_ok (c : List F) (ns : List Int) (ha : AscI ns) (hl : ns.length ≤ 1000) : Fun Tryz.prog 56 [.row 1000, eqP] [(1000, rP c ns), (1001, cP)] (.row 0) [(1001, cP), (0, rP c ns)] fun _ => False := by
  refine Fun.of_wp (pn := noPn) Tryz.tab Tryz.func56 rfl fun β0 => ?_
  simp only [Tryz.f56]
  repeat (first | refine wS ?_ | refine wB ?_ | ((first | refine wR ?_ | refine wD ?_); simp -dsimp) | refine aI ?_)
  refine WP.cond (b := decide (ns.length < 2)) (by simp; omega) (fun hb => ?_) (fun hb => ?_)
  · repeat (first | refine wS ?_ | refine wB ?_ | ((first | refine wR ?_ | refine wD ?_); simp -dsimp) | refine aI ?_)
    refine WP.ret (finQ.retWE (S' := mkS 66 [(4, .row 0)] [(1001, cP), (0, rP c ns)]) (Wk.go [] 1000 0 (by decide) (by simp) (by simp) (by simp)) ?_)
    simp -dsimp
  have hb := of_decide_eq_false hb
  refine WP.skip ?_
  simp -dsimp
  repeat (first | refine wS ?_ | refine wB ?_ | ((first | refine wR ?_ | refine wD ?_); simp -dsimp) | refine aI ?_)
  refine WP.loopWk (fun m S => ∃ k, 1 ≤ k ∧ k + m = ns.length ∧ S = mkS 66 [(0, .row 1000), (1, eqP), (5, .d (.v (.int .i64 k)))] [(1000, rP c ns), (1001, cP)]) (ns.length - 1)
    (S0 := mkS 66 [(0, .row 1000), (1, eqP), (5, .d (.v (.int .i64 1)))] [(1000, rP c ns), (1001, cP)]) (Wk.lessE [] (by simp) (by simp)) ⟨1, Nat.le_refl _, by omega, rfl⟩ ?_
  rintro m _ ⟨k, hk1, hkm, rfl⟩
  simp -dsimp
  repeat (first | refine wS ?_ | refine wB ?_ | ((first | refine wR ?_ | refine wD ?_); simp -dsimp) | refine aI ?_)
  by_cases hkn : k < ns.length
  · refine WP.cond (b := true) (by simp; omega) (fun _ => ?_) (fun h => by cases h)
    refine WP.skip ?_
    simp -dsimp
    have e1 : IntKind.i64.wrap ((k : Int) - 1) = ((k - 1 : Nat) : Int) := by rw [IntWalk.i64_in _ (by omega)]; omega
    have e2 : IntKind.i64.wrap ((k : Int) + 1) = ((k + 1 : Nat) : Int) := by rw [IntWalk.i64_in _ (by omega)]; omega
    have a1 := fpL_atL c hkn
    have hk2 : k - 1 < ns.length := by omega
    have a2 := fpL_atL c hk2
    have hlt : ns[k - 1] < ns[k] := List.pairwise_iff_getElem.1 ha (k - 1) k hk2 hkn (by omega)
    generalize ns[k] = x at a1 hlt
    generalize ns[k - 1] = y at a2 hlt
    refine WP.seq (WP.block ?_)
    repeat (first | refine wS ?_ | refine wB ?_ | ((first | refine wR ?_ | refine wD ?_); simp -dsimp [e1, a1, a2]) | refine aI ?_)
    refine vcStop.call Tryz.body57 (eqFile_ok c x y) (rl [(1000, 1001)]) rfl rfl (by simp [a1, a2, BoxLeq]) (CallOk.of (by simp [a1, a2, BoxLeq]) rfl (by first | rfl | (simp [a1, a2, BoxLeq]; done)) (by simp [a1, a2, BoxLeq]) (by simp [a1, a2, BoxLeq])) (fun _ h => h.elim) (fun ⟨_, h⟩ => h.elim) (fun ⟨_, h⟩ => h.elim) (by simp [a1, a2, BoxLeq]) ?_
    simp -dsimp
    repeat (first | refine wS ?_ | refine wB ?_ | ((first | refine wR ?_ | refine wD ?_); simp -dsimp) | refine aI ?_)
    have hc : ¬ cmpI x y = 0 := by
      unfold cmpI
      rw [if_neg (by omega), if_pos hlt]
      decide
    refine WP.cond (b := false) (by simp [hc]) (fun h => by cases h) (fun _ => ?_)
    refine WP.skip ?_
    simp -dsimp
    repeat (first | refine wS ?_ | refine wB ?_ | ((first | refine wR ?_ | refine wD ?_); simp -dsimp) | refine aI ?_)
    refine loopW.next (mkS 66 [(0, .row 1000), (1, eqP), (5, .d (.v (.int .i64 ((k + 1 : Nat) : Int))))] [(1000, rP c ns), (1001, cP)]) (Wk.lessE [] (by simp [e2]) (by simp)) (m - 1) (by omega) ⟨k + 1, by omega, by omega, rfl⟩
  · refine WP.cond (b := false) (by simp; omega) (fun h => by cases h) (fun _ => ?_)
    refine WP.exit ?_
    simp -dsimp
    repeat (first | refine wS ?_ | refine wB ?_ | ((first | refine wR ?_ | refine wD ?_); simp -dsimp) | refine aI ?_)
    refine WP.ret (finQ.retWE (S' := mkS 66 [(4, .row 0)] [(1001, cP), (0, rP c ns)]) (Wk.go [] 1000 0 (by decide) (by simp) (by simp) (by simp)) ?_)
    simp -dsimp
theorem sortFile_nil : Fun Tryz.prog 55 [.d nilD, .d cmpFD] [] (.d .any) [] fun _ => False := by
  have h := sortFile_ok [] [] [] (List.Perm.refl _) List.Pairwise.nil (by simp)
  exact Fun.nilRow (T := 64) (sz := 1) (h.res (.refl _) trivial) rfl rfl rfl rfl
theorem cloneP_nil : Fn0 Tryz.prog 54 [.v (.slice none 0 0)] (.v (.slice none 0 0)) := by
  refine Fun.of_wp (pn := noPn) Tryz.tab Tryz.func54 rfl fun β0 => ?_
  simp only [Tryz.f54]
  repeat (first | refine wS ?_ | refine wB ?_ | ((first | refine wR ?_ | refine wD ?_); simp -dsimp) | refine aI ?_)
  refine vcStop.eqNilNil Tryz.tab rfl rfl rfl rfl ?_
  simp -dsimp
  repeat (first | refine wS ?_ | refine wB ?_ | ((first | refine wR ?_ | refine wD ?_); simp -dsimp) | refine aI ?_)
  refine WP.cond (b := true) (by simp) (fun _ => ?_) (fun h => by cases h)
  repeat (first | refine wS ?_ | refine wB ?_ | ((first | refine wR ?_ | refine wD ?_); simp -dsimp) | refine aI ?_)
  refine WP.ret (finQ.retE ?_)
  simp -dsimp
theorem compactP_nil : Fun Tryz.prog 56 [.d nilD, eqP] [(1001, cP)] (.d nilD) [(1001, cP)] fun _ => False := by
  refine Fun.of_wp (pn := noPn) Tryz.tab Tryz.func56 rfl fun β0 => ?_
  simp only [Tryz.f56]
  repeat (first | refine wS ?_ | refine wB ?_ | ((first | refine wR ?_ | refine wD ?_); simp -dsimp) | refine aI ?_)
  refine WP.cond (b := true) (by simp) (fun _ => ?_) (fun h => by cases h)
  repeat (first | refine wS ?_ | refine wB ?_ | ((first | refine wR ?_ | refine wD ?_); simp -dsimp) | refine aI ?_)
  refine WP.ret (finQ.retE ?_)
  simp -dsimp
theorem sortedP_nil : Fn0 Tryz.prog 37 [nilD, cmpFD] nilD := by
  refine Fun.of_wp (pn := noPn) Tryz.tab Tryz.func37 rfl fun β0 => ?_
  simp only [Tryz.f37]
  repeat (first | refine wS ?_ | refine wB ?_ | ((first | refine wR ?_ | refine wD ?_); simp -dsimp) | refine aI ?_)
  refine vcStop.call0 Tryz.body54 cloneP_nil rfl rfl (by simp) ?_
  simp -dsimp
  repeat (first | refine wS ?_ | refine wB ?_ | ((first | refine wR ?_ | refine wD ?_); simp -dsimp) | refine aI ?_)
  refine vcStop.call Tryz.body55 (sortFile_nil) (rl []) rfl rfl (by simp [BoxLeq]) (CallOk.of (by simp [BoxLeq]) rfl (by first | rfl | (simp [BoxLeq]; done)) (by simp [BoxLeq]) (by simp [BoxLeq])) (fun _ h => h.elim) (fun ⟨_, h⟩ => h.elim) (fun ⟨_, h⟩ => h.elim) (by simp [BoxLeq]) ?_
  simp -dsimp
  repeat (first | refine wS ?_ | refine wB ?_ | ((first | refine wR ?_ | refine wD ?_); simp -dsimp) | refine aI ?_)
  refine vcStop.call Tryz.body56 (compactP_nil) (rl [(1001, 3)]) rfl rfl (by simp [BoxLeq]) (CallOk.of (by simp [BoxLeq]) rfl (by first | rfl | (simp [BoxLeq]; done)) (by simp [BoxLeq]) (by simp [BoxLeq])) (fun _ h => h.elim) (fun ⟨_, h⟩ => h.elim) (fun ⟨_, h⟩ => h.elim) (by simp [BoxLeq]) ?_
  simp -dsimp
  repeat (first | refine wS ?_ | refine wB ?_ | ((first | refine wR ?_ | refine wD ?_); simp -dsimp) | refine aI ?_)
  refine WP.ret (finQ.retE ?_)
  simp -dsimp
theorem sortedP_ok (c : List F) (ns ms : List Int) (hp : ms.Perm ns) (ha : AscI ms) (h0 : 0 < ns.length) (hl : ns.length ≤ 1000) : Fun Tryz.prog 37 [.row 1000, .d cmpFD] [(1000, rP c ns)] (.row 0) [(1000, rP c ns), (0, rP c ms)] fun _ => False := by
  have e : ms.length = ns.length := hp.length_eq
  refine Fun.of_wp (pn := noPn) Tryz.tab Tryz.func37 rfl fun β0 => ?_
  simp only [Tryz.f37]
  repeat (first | refine wS ?_ | refine wB ?_ | ((first | refine wR ?_ | refine wD ?_); simp -dsimp) | refine aI ?_)
  refine vcStop.call Tryz.body54 (cloneP_ok c ns h0 hl) (rl [(0, 600)]) rfl rfl (by simp [BoxLeq]) (CallOk.of (by simp [BoxLeq]) rfl (by first | rfl | (simp [BoxLeq]; done)) (by simp [BoxLeq]) (by simp [BoxLeq])) (fun _ h => h.elim) (fun ⟨_, h⟩ => h.elim) (fun ⟨_, h⟩ => h.elim) (by simp [BoxLeq]) ?_
  simp -dsimp
  repeat (first | refine wS ?_ | refine wB ?_ | ((first | refine wR ?_ | refine wD ?_); simp -dsimp) | refine aI ?_)
  refine vcStop.call Tryz.body55 (sortFile_ok c ns ms hp ha hl) (rl [(1000, 600)]) rfl rfl (by simp [BoxLeq]) (CallOk.of (by simp [BoxLeq]) rfl (by first | rfl | (simp [BoxLeq]; done)) (by simp [BoxLeq]) (by simp [BoxLeq])) (fun _ h => h.elim) (fun ⟨_, h⟩ => h.elim) (fun ⟨_, h⟩ => h.elim) (by simp [BoxLeq]) ?_
  simp -dsimp
  repeat (first | refine wS ?_ | refine wB ?_ | ((first | refine wR ?_ | refine wD ?_); simp -dsimp) | refine aI ?_)
  refine vcStop.call Tryz.body56 (compactP_ok c ms ha (by omega)) (rl [(1000, 600), (1001, 3), (0, 700)]) rfl rfl (by simp [BoxLeq]) (CallOk.of (by simp [BoxLeq]) rfl (by first | rfl | (simp [BoxLeq]; done)) (by simp [BoxLeq]) (by simp [BoxLeq])) (fun _ h => h.elim) (fun ⟨_, h⟩ => h.elim) (fun ⟨_, h⟩ => h.elim) (by simp [BoxLeq]) ?_
  simp -dsimp
  repeat (first | refine wS ?_ | refine wB ?_ | ((first | refine wR ?_ | refine wD ?_); simp -dsimp) | refine aI ?_)
  refine WP.ret (finQ.retWE (S' := mkS 13 [(4, .row 0)] [(1000, rP c ns), (0, rP c ms)]) (Wk.go [] 700 0 (by decide) (by simp) (by simp) (by simp)) ?_)
  simp -dsimp
end Go.Proofs.YtjjaabidbeoomaaGreatDoor
