/-
  Rulings: what one fact does to the files.
-/
import Derived.Test.YtjjaabidbeoomaaGreatDoorKQf
import Derived.Test.YtjjaabidbeoomaaGreatDoorKPe
set_option linter.unusedSectionVars false
set_option linter.unusedSimpArgs false
set_option linter.unusedVariables false
namespace Go.Proofs.YtjjaabidbeoomaaGreatDoor
open Go.Xe Go.RowKit

/-! ### valid facts -/
theorem only_zero {x : Nat → Int} {i : Nat} (h4 : 4 ≤ i) (hp : ¬ ((partF (x 3)).1 ≤ i ∧ i < (partF (x 3)).1 + (partF (x 3)).2)) : onlyF x i = 0 := by
  have h0 : i ≠ 0 := by omega
  have h1 : i ≠ 1 := by omega
  have h2 : i ≠ 2 := by omega
  have h3 : i ≠ 3 := by omega
  rw [onlyF, fcp, if_neg hp]
  simp [baseF, fup, f0, h0, h1, h2, h3]
theorem chk_parts {x : Nat → Int} (h : chkF x = true) : inB (x 0) 0 31 = true ∧ inB (x 1) 1 1048576 = true ∧ inB (x 2) 0 1099511627776 = true ∧ conF x = true ∧ eqF x (onlyF x) = true := by
  unfold chkF at h
  rw [Bool.and_eq_true, Bool.and_eq_true, Bool.and_eq_true, Bool.and_eq_true] at h
  exact ⟨h.1.1.1.1, h.1.1.1.2, h.1.1.2, h.1.2, h.2⟩
theorem chk_zero {x : Nat → Int} (h : chkF x = true) {i : Nat} (hi : i < 57) (h4 : 4 ≤ i) (hp : ¬ ((partF (x 3)).1 ≤ i ∧ i < (partF (x 3)).1 + (partF (x 3)).2)) : x i = 0 := by
  have := (chk_parts h).2.2.2.2
  unfold eqF at this
  rw [List.all_eq_true] at this
  have := this i (by simpa using hi)
  rw [decide_eq_true_eq, only_zero h4 hp] at this
  exact this
theorem v_chk {f : F} (h : vOk f) : chkF f = true := by rw [← (num_chk h.1).1]; exact h.2
theorem v_rul {f : F} (h : vOk f) (h3 : f 3 = 10) : (1 ≤ f 47 ∧ f 47 ≤ 1048576) ∧ (f 48 = 1 ∨ f 48 = 2) ∧ f 39 = 0 := by
  have hc := v_chk h
  have h1 := (chk_parts hc).2.2.2.1
  simp only [conF, h3] at h1
  have h1 : rulF f = true := by simpa using h1
  simp only [rulF, inB, Bool.and_eq_true, decide_eq_true_eq] at h1
  refine ⟨h1.1.1, by omega, chk_zero hc (by omega) (by omega) ?_⟩
  rw [h3]
  decide
theorem v_rep {f : F} (h : vOk f) (h3 : f 3 = 8) : (1 ≤ f 39 ∧ f 39 ≤ 1048576) ∧ f 47 = 0 := by
  have hc := v_chk h
  have h1 := (chk_parts hc).2.2.2.1
  simp only [conF, h3] at h1
  have h1 : (inB (f 39) 1 1048576 && inB (f 40) 1 9999 && inB (f 41) 0 31 && inB (f 42) 0 255) = true := by simpa using h1
  simp only [inB, Bool.and_eq_true, decide_eq_true_eq] at h1
  refine ⟨h1.1.1.1, chk_zero hc (by omega) (by omega) ?_⟩
  rw [h3]
  decide
theorem v_app {f : F} (h : vOk f) (h3 : f 3 = 11) : (1 ≤ f 53 ∧ f 53 ≤ 1048576) ∧ f 47 = 0 ∧ f 39 = 0 := by
  have hc := v_chk h
  have h1 := (chk_parts hc).2.2.2.1
  simp only [conF, h3] at h1
  have h1 : inB (f 53) 1 1048576 = true := by simpa using h1
  simp only [inB, Bool.and_eq_true, decide_eq_true_eq] at h1
  refine ⟨h1, chk_zero hc (by omega) (by omega) ?_, chk_zero hc (by omega) (by omega) ?_⟩ <;> rw [h3] <;> decide

/-! ### what turns -/
theorem bool_no {b : Bool} (h : b = true → False) : b = false := by cases b <;> simp_all
theorem mkE_ne {c : List F} {f : F} {y : Rc} (h : caseF f ≠ some y.n) : mkE (c ++ [f]) y = mkE c y := by
  have h1 : ∀ i, isRul y.n i f = false := fun i => bool_no fun e => h (rul_case e)
  have h2 : isRep y.n f = false := bool_no fun e => h (rep_case e)
  have h3 : isApp y.n f = false := bool_no fun e => h (app_case e)
  simp [mkE, cellsR, List.filter_append, List.filter_cons, h1, h2, h3]
theorem flat_ne {c : List F} {f : F} : ∀ {xs : List Rc}, (∀ y ∈ xs, caseF f ≠ some y.n) → xs.flatMap (mkE (c ++ [f])) = xs.flatMap (mkE c)
  | [], _ => rfl
  | y :: xs, h => by rw [List.flatMap_cons, List.flatMap_cons, mkE_ne (h y (by simp)), flat_ne fun z hz => h z (by simp [hz])]
abbrev E0 (c : List F) (x : Rc) : Value × Box := (ptrV x.p 0, .cells 75 (cellsR c x))
abbrev E1 (c : List F) (x : Rc) : Value × Box := (x.v1, .row 62 57 (c.filter (isRul x.n 1)).length ((fsC (c.filter (isRul x.n 1))).map .d))
abbrev E2 (c : List F) (x : Rc) : Value × Box := (x.v2, .row 62 57 (c.filter (isRul x.n 2)).length ((fsC (c.filter (isRul x.n 2))).map .d))
abbrev E3 (c : List F) (x : Rc) : Value × Box := (x.v3, .row 54 4 (c.filter (isRep x.n)).length ((repC (c.filter (isRep x.n))).map .d))
theorem mkE_eq (c : List F) (x : Rc) : mkE c x = [E0 c x, E1 c x, E2 c x, E3 c x] := rfl
theorem flat_at (c : List F) (a : List Rc) (x : Rc) (b : List Rc) : (a ++ x :: b).flatMap (mkE c) = a.flatMap (mkE c) ++ E0 c x :: E1 c x :: E2 c x :: E3 c x :: b.flatMap (mkE c) := by
  rw [List.flatMap_append, List.flatMap_cons, mkE_eq]; rfl
theorem mkE_r1 {c : List F} {f : F} {x : Rc} (v : Value) (hk : f 3 = 10) (hn : f 47 = x.n) (hi : f 48 = 1) : mkE (c ++ [f]) { x with v1 := v } =
    [(ptrV x.p 0, .cells 75 [.d (.v (.int .i64 x.n)), .d nilD, .d (.v v), .d (.v x.v2), .d (.v x.v3), .d (.v (.bool (c.any (isApp x.n))))]), (v, .row 62 57 ((c.filter (isRul x.n 1)).length + 1) ((fsC (c.filter (isRul x.n 1))).map .d ++ (fcs f 0 57).map .d)), E2 c x, E3 c x] := by
  have h1 : isRul x.n 1 f = true := by simp [isRul, hk, hn, hi]
  have h2 : isRul x.n 2 f = false := by simp [isRul, hi]
  have h3 : isRep x.n f = false := by simp [isRep, hk]
  have h4 : isApp x.n f = false := by simp [isApp, hk]
  simp [mkE, cellsR, List.filter_append, List.filter_cons, h1, h2, h3, h4, fsC_append, fsC]
theorem mkE_r2 {c : List F} {f : F} {x : Rc} (v : Value) (hk : f 3 = 10) (hn : f 47 = x.n) (hi : f 48 = 2) : mkE (c ++ [f]) { x with v2 := v } =
    [(ptrV x.p 0, .cells 75 [.d (.v (.int .i64 x.n)), .d nilD, .d (.v x.v1), .d (.v v), .d (.v x.v3), .d (.v (.bool (c.any (isApp x.n))))]), E1 c x, (v, .row 62 57 ((c.filter (isRul x.n 2)).length + 1) ((fsC (c.filter (isRul x.n 2))).map .d ++ (fcs f 0 57).map .d)), E3 c x] := by
  have h1 : isRul x.n 1 f = false := by simp [isRul, hi]
  have h2 : isRul x.n 2 f = true := by simp [isRul, hk, hn, hi]
  have h3 : isRep x.n f = false := by simp [isRep, hk]
  have h4 : isApp x.n f = false := by simp [isApp, hk]
  simp [mkE, cellsR, List.filter_append, List.filter_cons, h1, h2, h3, h4, fsC_append, fsC]
theorem mkE_rep {c : List F} {f : F} {x : Rc} (v : Value) (hk : f 3 = 8) (hn : f 39 = x.n) : mkE (c ++ [f]) { x with v3 := v } =
    [(ptrV x.p 0, .cells 75 [.d (.v (.int .i64 x.n)), .d nilD, .d (.v x.v1), .d (.v x.v2), .d (.v v), .d (.v (.bool (c.any (isApp x.n))))]), E1 c x, E2 c x, (v, .row 54 4 ((c.filter (isRep x.n)).length + 1) ((repC (c.filter (isRep x.n))).map .d ++ (fcs f 39 4).map .d))] := by
  have h1 : ∀ i, isRul x.n i f = false := fun i => by simp [isRul, hk]
  have h3 : isRep x.n f = true := by simp [isRep, hk, hn]
  have h4 : isApp x.n f = false := by simp [isApp, hk]
  simp [mkE, cellsR, List.filter_append, List.filter_cons, h1, h3, h4, repC]
theorem mkE_app {c : List F} {f : F} {x : Rc} (hk : f 3 = 11) (hs : f 54 = 1) (hn : f 53 = x.n) : mkE (c ++ [f]) x =
    [(ptrV x.p 0, .cells 75 [.d (.v (.int .i64 x.n)), .d nilD, .d (.v x.v1), .d (.v x.v2), .d (.v x.v3), .d (.v (.bool true))]), E1 c x, E2 c x, E3 c x] := by
  have h1 : ∀ i, isRul x.n i f = false := fun i => by simp [isRul, hk]
  have h3 : isRep x.n f = false := by simp [isRep, hk]
  have h4 : isApp x.n f = true := by simp [isApp, hk, hs, hn]
  simp [mkE, cellsR, List.filter_append, List.filter_cons, h1, h3, h4]
theorem get_nums {c : List F} {xs : List Rc} {n : Int} {a b : List Rc} {x : Rc} (hx : xs.map (·.n) = numsL c []) (hg : GetR xs n (a, x, b)) : (a ++ x :: b).map (·.n) = stepN (some n) (numsL c []) ∧ ((a ++ x :: b).map (·.n)).Nodup := by
  obtain ⟨h1, h2⟩ := hg
  simp only at h1 h2
  have hnd := numsL_nodup c [] List.nodup_nil
  rcases h2 with h2 | ⟨h2, h3, h4, _⟩
  · have hm : n ∈ numsL c [] := by rw [← hx, h2, ← h1]; simp
    have e : (a ++ x :: b).map (·.n) = numsL c [] := by rw [← h2]; exact hx
    exact ⟨by rw [e, stepN, if_pos hm], by rw [e]; exact hnd⟩
  · subst h3
    subst h4
    have hm : n ∉ numsL c [] := by rw [← hx]; exact h2
    have e : (xs ++ [x]).map (·.n) = numsL c [] ++ [n] := by rw [List.map_append, hx, ← h1]; rfl
    refine ⟨by rw [e, stepN, if_neg hm], ?_⟩
    rw [e]
    exact List.nodup_append.2 ⟨hnd, by simp, fun u hu w hw e' => by rw [List.mem_singleton] at hw; rw [e', hw] at hu; exact hm hu⟩
theorem nodup_ne {a b : List Rc} {x : Rc} (h : ((a ++ x :: b).map (·.n)).Nodup) : (∀ y ∈ a, x.n ≠ y.n) ∧ ∀ y ∈ b, x.n ≠ y.n := by
  rw [List.map_append, List.map_cons] at h
  obtain ⟨_, h2, h3⟩ := List.nodup_append.1 h
  refine ⟨fun y hy e => h3 y.n (List.mem_map.2 ⟨y, hy, rfl⟩) x.n (by simp) e.symm, fun y hy e => ?_⟩
  exact (List.nodup_cons.1 h2).1 (by rw [e]; exact List.mem_map.2 ⟨y, hy, rfl⟩)
theorem perm_in2 {α : Type} (l r : List α) (p v : α) : (p :: v :: (l ++ r)).Perm (l ++ p :: v :: r) := by
  have := List.perm_append_comm_assoc [p, v] l r
  exact this
theorem perm_in3 {α : Type} (l r : List α) (p v e : α) : (p :: v :: (l ++ e :: r)).Perm (l ++ p :: e :: v :: r) :=
  (perm_in2 l (e :: r) p v).trans (List.Perm.append_left l ((List.Perm.swap e v r).cons p))
theorem perm_in4 {α : Type} (l r : List α) (p v e e' : α) : (p :: v :: (l ++ e :: e' :: r)).Perm (l ++ p :: e :: e' :: v :: r) :=
  (perm_in3 l (e' :: r) p v e).trans (List.Perm.append_left l (((List.Perm.swap e' v r).cons e).cons p))
/-- The file goes back among the others. -/
theorem back_ok {β0 : Nat → Value} {p : Nat} {v0 : Value} {SL : List AV} {l : List (Value × Box)} {T : TypeId} {sz n : Nat} {rc : List AV} (cs : AV → List AV) {kvs : List (Value × D)} {S1 : St} {l' : Value → List (Value × Box)}
    (h0 : Wk S1 ⟨SL, [(650, Bun l), (1700, .cells 75 (cs (.row 61))), (6, .cells 83 [.row 29]), (29, .mp kvs), (61, .row T sz n rc)], []⟩) (hSL : AV.hasL 650 SL = false ∧ AV.hasL 1700 SL = false ∧ AV.hasL 1702 SL = false)
    (hcl : ∀ q ∈ l, Clo q.2) (hrc : ∀ k, AV.hasL k rc = false) (hcs : ∀ v, PLeL 61 v (cs (.row 61)) (cs (.d (.v v)))) (hcs2 : ∀ v k, AV.hasL k (cs (.d (.v v))) = false)
    (hp : ∀ v, ((ptrV p 0, Box.cells 75 (cs (.d (.v v)))) :: (v, .row T sz n rc) :: l).Perm (l' v)) :
    CvO (((⟨[], β0, none, false⟩ : Dn).fix 1700 (ptrV p 0)).fix 1702 v0) ⟨[], β0, none, false⟩ S1 (fun v => ⟨SL, [(650, Bun (l' v)), (6, .cells 83 [.row 29]), (29, .mp kvs)], []⟩) := by
  refine Cv.thenO (Wk.cv h0) ?_
  have p1 := Opn.pushR (S := ⟨SL, [(650, Bun l), (1700, .cells 75 (cs (.row 61))), (6, .cells 83 [.row 29]), (29, .mp kvs), (61, .row T sz n rc)], []⟩) 61 650 (T := T) (sz := sz) (n := n) (cs := rc) (l := l) rfl rfl (by decide) (by decide) hcl hrc (fun _ => SL)
    (fun v => [(1700, .cells 75 (cs (.d (.v v)))), (6, .cells 83 [.row 29]), (29, .mp kvs)]) (fun v => PLeL.refl _ _ _) (fun v => by simp [PLeBx, PLeB, hcs]) (fun v => ⟨hSL.1, by simp [hcs2]⟩)
  refine CvO.then (Opn.cvo p1) ⟨rfl, rfl, rfl⟩ (fun v => ?_)
  have hc1 : ∀ q ∈ (v, Box.row T sz n rc) :: l, Clo q.2 := fun q hq => by
    rcases List.mem_cons.1 hq with rfl | hq
    · exact ⟨rfl, hrc⟩
    · exact hcl q hq
  have hc2 : ∀ q ∈ (ptrV p 0, Box.cells 75 (cs (.d (.v v)))) :: (v, Box.row T sz n rc) :: l, Clo q.2 := fun q hq => by
    rcases List.mem_cons.1 hq with rfl | hq
    · exact ⟨rfl, hcs2 v⟩
    · exact hc1 q hq
  have p2 := Cv.push (ds := ((⟨[], β0, none, false⟩ : Dn).fix 1700 (ptrV p 0)).fix 1702 v0) (S := ⟨SL, [(650, Bun ((v, .row T sz n rc) :: l)), (1700, .cells 75 (cs (.d (.v v)))), (6, .cells 83 [.row 29]), (29, .mp kvs)], []⟩) 1700 650 (b := .cells 75 (cs (.d (.v v)))) (l := (v, .row T sz n rc) :: l) rfl rfl (by decide) (by decide) hc1 ⟨rfl, hcs2 v⟩ SL
    [(6, .cells 83 [.row 29]), (29, .mp kvs)] (PLeL.refl _ _ _) (by simp [PLeBx]) hSL.1 (by simp)
  have e0 : (((⟨[], β0, none, false⟩ : Dn).fix 1700 (ptrV p 0)).fix 1702 v0).β0 1700 = ptrV p 0 := by simp [Dn.fix, upd]
  rw [e0] at p2
  refine p2.trans (Cv.trans (Wk.cv (Wk.bunPerm 650 rfl (by decide) hc2 (hp v) [(6, .cells 83 [.row 29]), (29, .mp kvs)] (by simp [subB]) hSL.1 (by simp))) ?_)
  refine Cv.trans (Cv.unfix 1702 (by decide) (ds' := (⟨[], β0, none, false⟩ : Dn).fix 1700 (ptrV p 0)) ⟨rfl, rfl, rfl⟩ (fun i hi => by simp [Dn.fix, upd, hi]) hSL.2.2 (by simp)) ?_
  exact Cv.unfix 1700 (by decide) ⟨rfl, rfl, rfl⟩ (fun i hi => by simp [Dn.fix, upd, hi]) hSL.2.1 (by simp)
end Go.Proofs.YtjjaabidbeoomaaGreatDoor
