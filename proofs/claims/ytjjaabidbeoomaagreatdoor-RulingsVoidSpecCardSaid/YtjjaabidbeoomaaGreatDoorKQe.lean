/-
  Rulings: the closure that finds a case's file, or lays a new one.
-/
import Derived.Test.YtjjaabidbeoomaaGreatDoorKA
import Derived.Test.YtjjaabidbeoomaaGreatDoorKQb
import Derived.Test.YtjjaabidbeoomaaGreatDoorKF
set_option linter.unusedSectionVars false
set_option linter.unusedSimpArgs false
set_option linter.unusedVariables false
namespace Go.Proofs.YtjjaabidbeoomaaGreatDoor
open Go.Xe Go.RowKit

/-! ### files, as they lie -/
/-- A file's number, its address, the slices of its rulings (of instance 1 and 2) and reports. -/
structure Rc where
  n : Int
  p : Nat
  v1 : Value
  v2 : Value
  v3 : Value
def repC (l : List F) : List D := l.flatMap fun f => fcs f 39 4
/-- What a file's cells and rows hold, of the facts c. -/
def cellsR (c : List F) (x : Rc) : List AV := [.d (.v (.int .i64 x.n)), .d nilD, .d (.v x.v1), .d (.v x.v2), .d (.v x.v3), .d (.v (.bool (c.any (isApp x.n))))]
def mkE (c : List F) (x : Rc) : List (Value × Box) :=
  [(ptrV x.p 0, .cells 75 (cellsR c x)), (x.v1, .row 62 57 (c.filter (isRul x.n 1)).length ((fsC (c.filter (isRul x.n 1))).map .d)), (x.v2, .row 62 57 (c.filter (isRul x.n 2)).length ((fsC (c.filter (isRul x.n 2))).map .d)),
    (x.v3, .row 54 4 (c.filter (isRep x.n)).length ((repC (c.filter (isRep x.n))).map .d))]
def kvX (x : Rc) : Value × D := (.int .i64 x.n, .v (ptrV x.p 0))
def bunX (c : List F) (xs : List Rc) : Box := Bun (xs.flatMap (mkE c))
@[simp] theorem Bun_eq (l : List (Value × Box)) : Bun l = .opq (BunP l) := rfl
@[simp] theorem bunX_eq (c : List F) (xs : List Rc) : bunX c xs = .opq (BunP (xs.flatMap (mkE c))) := rfl
theorem clo_mkE (c : List F) : ∀ (xs : List Rc), ∀ q ∈ xs.flatMap (mkE c), Clo q.2 := fun xs q hq => by
  obtain ⟨x, _, hx⟩ := List.mem_flatMap.1 hq
  simp only [mkE, List.mem_cons, List.not_mem_nil, or_false] at hx
  have hd : ∀ (ds : List D) k, AV.hasL k (ds.map .d) = false := fun ds k => hasL_ds fun c h => by obtain ⟨d, _, rfl⟩ := List.mem_map.1 h; exact ⟨d, rfl⟩
  rcases hx with rfl | rfl | rfl | rfl
  · exact ⟨rfl, fun _ => rfl⟩
  · exact ⟨rfl, hd _⟩
  · exact ⟨rfl, hd _⟩
  · exact ⟨rfl, hd _⟩
theorem int_key {n : Int} (hn : isI n) : ∃ l, keyOf Tryz.prog 3 (.int .i64 n) = some l := by
  refine ⟨.int .i64 n, ?_⟩
  have h : (Lit.int .i64 n).wf = true := by
    unfold isI at hn
    simp [Lit.wf, IntKind.min, IntKind.max, IntKind.bits, IntKind.signed]
    omega
  simp [keyOf, Tryz.underlying3, mapKey, h]
theorem int3_keyed : Maps.Keyed Tryz.prog 3 := Maps.int_keyed Tryz.underlying3
abbrev fileNew (n : Int) : List AV := [.d (.v (.int .i64 n)), .d nilD, .d nilD, .d nilD, .d nilD, .d (.v (.bool false))]
/-- Where a number's file is: among those that there are, or a new one behind them. -/
def GetR (xs : List Rc) (n : Int) (q : List Rc × Rc × List Rc) : Prop := q.2.1.n = n ∧ (xs = q.1 ++ q.2.1 :: q.2.2 ∨ (n ∉ xs.map (·.n) ∧ q.2.2 = [] ∧ xs = q.1 ∧ q.2.1.v1 = .slice none 0 0 ∧ q.2.1.v2 = .slice none 0 0 ∧ q.2.1.v3 = .slice none 0 0))
def allX (q : List Rc × Rc × List Rc) : List Rc := q.1 ++ q.2.1 :: q.2.2
theorem rul_case {n i : Int} {f : F} (h : isRul n i f = true) : caseF f = some n := by
  simp only [isRul, Bool.and_eq_true, decide_eq_true_eq] at h
  rw [caseF, if_pos h.1, h.2.1]
theorem rep_case {n : Int} {f : F} (h : isRep n f = true) : caseF f = some n := by
  simp only [isRep, Bool.and_eq_true, decide_eq_true_eq] at h
  rw [caseF, if_neg (by omega), if_pos h.1, h.2]
theorem app_case {n : Int} {f : F} (h : isApp n f = true) : caseF f = some n := by
  simp only [isApp, Bool.and_eq_true, decide_eq_true_eq] at h
  rw [caseF, if_neg (by omega), if_neg (by omega), if_pos ⟨h.1, h.2.1⟩, h.2.2]
abbrev nilV : Value := .slice none 0 0
abbrev newR (n : Int) (p : Nat) : Rc := ⟨n, p, nilV, nilV, nilV⟩
theorem new_mkE {c : List F} {n : Int} (hc : ∀ f ∈ c, caseF f ≠ some n) (p : Nat) : mkE c (newR n p) = [(ptrV p 0, .cells 75 (fileNew n)), (nilV, .row 62 57 0 []), (nilV, .row 62 57 0 []), (nilV, .row 54 4 0 [])] := by
  have h1 : ∀ i, c.filter (isRul n i) = [] := fun i => List.filter_eq_nil_iff.2 fun f hf h => hc f hf (rul_case h)
  have h2 : c.filter (isRep n) = [] := List.filter_eq_nil_iff.2 fun f hf h => hc f hf (rep_case h)
  have h3 : c.any (isApp n) = false := by
    rw [← Bool.not_eq_true, List.any_eq_true]
    rintro ⟨f, hf, h⟩
    exact hc f hf (app_case h)
  simp [mkE, cellsR, h1, h2, h3, repC]
theorem perm_new {α : Type} (l : List α) (a b c d : α) : (d :: c :: b :: a :: l).Perm (l ++ [a, b, c, d]) := by
  have h : (d :: c :: b :: a :: l) = [d, c, b, a] ++ l := rfl
  rw [h]
  refine List.perm_append_comm.trans (List.Perm.append_left l ?_)
  exact (List.reverse_perm [a, b, c, d])
set_option maxRecDepth 10000 in
set_option maxHeartbeats 4000000 in
theorem get_ok (c : List F) (xs : List Rc) (n : Int) (hn : isI n) (hxs : ∀ x ∈ xs, isI x.n) (hc : n ∉ xs.map (·.n) → ∀ f ∈ c, caseF f ≠ some n) :
    FunX Tryz.prog 36 [.d (.v (.int .i64 n)), .ptr 1000 0] [(1000, .cells 83 [.row 1001]), (1001, .mp (xs.map kvX)), (1002, bunX c xs)] (α := {q : List Rc × Rc × List Rc // GetR xs n q}) (fun q => .d (.v (ptrV q.1.2.1.p 0)))
      (fun q => [(1000, .cells 83 [.row 1001]), (1001, .mp ((allX q.1).map kvX)), (2, bunX c (allX q.1))]) := by
  obtain ⟨lk, hlk⟩ := int_key hn
  have hks : KeysOk Tryz.prog 3 (xs.map kvX) := fun p hp => by
    obtain ⟨x, hx, rfl⟩ := List.mem_map.1 hp
    exact int_key (hxs x hx)
  refine FunX.of_wp Tryz.tab Tryz.func36 rfl fun β0 => ?_
  simp only [Tryz.f36]
  refine WP.weak (Wk.retag 1002 2 (by decide) (by simp)) ?_
  simp -dsimp
  repeat (first | refine wS ?_ | refine wB ?_ | ((first | refine wR ?_ | refine wD ?_); simp -dsimp) | refine aI ?_)
  by_cases hin : n ∈ xs.map (·.n)
  · obtain ⟨x, hx, hxn⟩ := List.mem_map.1 hin
    obtain ⟨a, b, hab⟩ := List.append_of_mem hx
    subst hxn
    have hg : GetOk (xs.map kvX) (.int .i64 x.n) (.v (.pointer none)) (.v (ptrV x.p 0)) := .inl ⟨a.map kvX, b.map kvX, by rw [hab, List.map_append, List.map_cons]; rfl⟩
    refine vcStop.mapGet Tryz.tab rfl rfl int3_keyed Tryz.zeroValue64 (j := 1001) rfl (kvs := xs.map kvX) rfl (key := .int .i64 x.n) (.refl _) (.v (ptrV x.p 0)) hlk hks hg ?_
    simp -dsimp
    repeat (first | refine wS ?_ | refine wB ?_ | ((first | refine wR ?_ | refine wD ?_); simp -dsimp) | refine aI ?_)
    refine vcStop.eqPtrNil Tryz.tab rfl rfl rfl rfl ?_
    simp -dsimp
    repeat (first | refine wS ?_ | refine wB ?_ | ((first | refine wR ?_ | refine wD ?_); simp -dsimp) | refine aI ?_)
    refine WP.cond (b := false) (by simp) (fun h => by cases h) (fun _ => ?_)
    refine WP.skip ?_
    simp -dsimp
    repeat (first | refine wS ?_ | refine wB ?_ | ((first | refine wR ?_ | refine wD ?_); simp -dsimp) | refine aI ?_)
    refine vcStop.mapGet Tryz.tab rfl rfl int3_keyed Tryz.zeroValue64 (j := 1001) rfl (kvs := xs.map kvX) rfl (key := .int .i64 x.n) (.refl _) (.v (ptrV x.p 0)) hlk hks hg ?_
    simp -dsimp
    repeat (first | refine wS ?_ | refine wB ?_ | ((first | refine wR ?_ | refine wD ?_); simp -dsimp) | refine aI ?_)
    refine WP.ret (finX.ret ⟨(a, x, b), rfl, .inl hab⟩ (finQ.retWE (S' := mkS 16 [(3, .d (.v (ptrV x.p 0)))] [(1000, .cells 83 [.row 1001]), (1001, .mp (xs.map kvX)), (2, bunX c xs)]) (Wk.lessE [] (by simp) (by simp)) ?_))
    simp -dsimp [allX, ← hab]
  · have hg : GetOk (xs.map kvX) (.int .i64 n) (.v (.pointer none)) (.v (.pointer none)) := .inr ⟨fun p hp e => by
      obtain ⟨x, hx, rfl⟩ := List.mem_map.1 hp
      have e : Value.int .i64 x.n = .int .i64 n := e
      injection e with _ e
      exact hin (List.mem_map.2 ⟨x, hx, e⟩), rfl⟩
    refine vcStop.mapGet Tryz.tab rfl rfl int3_keyed Tryz.zeroValue64 (j := 1001) rfl (kvs := xs.map kvX) rfl (key := .int .i64 n) (.refl _) (.v (.pointer none)) hlk hks hg ?_
    simp -dsimp
    repeat (first | refine wS ?_ | refine wB ?_ | ((first | refine wR ?_ | refine wD ?_); simp -dsimp) | refine aI ?_)
    refine vcStop.eqPtrNil Tryz.tab rfl rfl rfl rfl ?_
    simp -dsimp
    repeat (first | refine wS ?_ | refine wB ?_ | ((first | refine wR ?_ | refine wD ?_); simp -dsimp) | refine aI ?_)
    refine WP.cond (b := true) (by simp) (fun _ => ?_) (fun h => by cases h)
    refine WP.cut4 Tryz.tab rfl ?_
    simp -dsimp
    refine vcX.op Tryz.tab rfl (by simp) (by simp) (α := Nat) (S' := fun p => mkS 16 [(0, .d (.v (.int .i64 n))), (1, .ptr 1000 0), (8, .row 1001), (9, .d (.v (.int .i64 n))), (12, .d (.v (ptrV p 0)))] [(2, bunX c (xs ++ [newR n p])), (1000, .cells 83 [.row 1001]), (1001, .mp (xs.map kvX))]) ?_ (fun p => ?_)
    · have hcn := hc hin
      have hcl := clo_mkE c xs
      have hcl2 : ∀ p : Nat, ∀ q ∈ ((ptrV p 0, Box.cells 75 (fileNew n)) :: xs.flatMap (mkE c)), Clo q.2 := fun p q hq => by
        rcases List.mem_cons.1 hq with rfl | hq
        · exact ⟨rfl, fun _ => rfl⟩
        · exact hcl q hq
      have hcl3 : ∀ p : Nat, ∀ q ∈ ((nilV, Box.row 62 57 0 []) :: (ptrV p 0, Box.cells 75 (fileNew n)) :: xs.flatMap (mkE c)), Clo q.2 := fun p q hq => by
        rcases List.mem_cons.1 hq with rfl | hq
        · exact ⟨rfl, fun _ => rfl⟩
        · exact hcl2 p q hq
      have hcl4 : ∀ p : Nat, ∀ q ∈ ((nilV, Box.row 62 57 0 []) :: (nilV, Box.row 62 57 0 []) :: (ptrV p 0, Box.cells 75 (fileNew n)) :: xs.flatMap (mkE c)), Clo q.2 := fun p q hq => by
        rcases List.mem_cons.1 hq with rfl | hq
        · exact ⟨rfl, fun _ => rfl⟩
        · exact hcl3 p q hq
      have hcl5 : ∀ p : Nat, ∀ q ∈ ((nilV, Box.row 54 4 0 []) :: (nilV, Box.row 62 57 0 []) :: (nilV, Box.row 62 57 0 []) :: (ptrV p 0, Box.cells 75 (fileNew n)) :: xs.flatMap (mkE c)), Clo q.2 := fun p q hq => by
        rcases List.mem_cons.1 hq with rfl | hq
        · exact ⟨rfl, fun _ => rfl⟩
        · exact hcl4 p q hq
      have hpm : ∀ p : Nat, ((nilV, Box.row 54 4 0 []) :: (nilV, Box.row 62 57 0 []) :: (nilV, Box.row 62 57 0 []) :: (ptrV p 0, Box.cells 75 (fileNew n)) :: xs.flatMap (mkE c)).Perm ((xs ++ [newR n p]).flatMap (mkE c)) := fun p => by
        rw [List.flatMap_append, List.flatMap_cons, List.flatMap_nil, List.append_nil, new_mkE hcn]
        exact perm_new _ _ _ _ _
      refine Opn.wk (Opn.pushC 12 2 (T := 75) (cs := fileNew n) (l := xs.flatMap (mkE c)) rfl rfl (by decide) (by decide) hcl (fun _ => rfl) (fun p => (mkS 16 [(0, .d (.v (.int .i64 n))), (1, .ptr 1000 0), (8, .row 1001), (9, .d (.v (.int .i64 n))), (12, .d (.v (ptrV p 0)))] []).sl) (fun p => [(1000, .cells 83 [.row 1001]), (1001, .mp (xs.map kvX))]) (fun p => by simp [PLeL]) (fun p => by simp [PLeBx]) (fun p => ⟨by simp, by simp⟩)) (fun p => ?_)
      refine Wk.trans (Wk.bunNil 2 62 57 (l := (ptrV p 0, Box.cells 75 (fileNew n)) :: xs.flatMap (mkE c)) rfl (by decide) (hcl2 p) [(1000, .cells 83 [.row 1001]), (1001, .mp (xs.map kvX))] (by simp [subB]) (by simp) (by simp)) ?_
      refine Wk.trans (Wk.bunNil 2 62 57 (l := (nilV, Box.row 62 57 0 []) :: (ptrV p 0, Box.cells 75 (fileNew n)) :: xs.flatMap (mkE c)) rfl (by decide) (hcl3 p) [(1000, .cells 83 [.row 1001]), (1001, .mp (xs.map kvX))] (by simp [subB]) (by simp) (by simp)) ?_
      refine Wk.trans (Wk.bunNil 2 54 4 (l := (nilV, Box.row 62 57 0 []) :: (nilV, Box.row 62 57 0 []) :: (ptrV p 0, Box.cells 75 (fileNew n)) :: xs.flatMap (mkE c)) rfl (by decide) (hcl4 p) [(1000, .cells 83 [.row 1001]), (1001, .mp (xs.map kvX))] (by simp [subB]) (by simp) (by simp)) ?_
      exact Wk.bunPerm 2 rfl (by decide) (hcl5 p) (hpm p) [(1000, .cells 83 [.row 1001]), (1001, .mp (xs.map kvX))] (by simp [subB]) (by simp) (by simp)
    simp -dsimp
    have hput : PutOk (xs.map kvX) (.int .i64 n) (.v (ptrV p 0)) ((xs ++ [newR n p]).map kvX) := .inr ⟨fun q hq e => by
      obtain ⟨x, hx, rfl⟩ := List.mem_map.1 hq
      have e : Value.int .i64 x.n = .int .i64 n := e
      injection e with _ e
      exact hin (List.mem_map.2 ⟨x, hx, e⟩), by rw [List.map_append]; rfl⟩
    refine vcStop.mapPut Tryz.tab rfl rfl int3_keyed (j := 1001) rfl (kvs := xs.map kvX) ((xs ++ [newR n p]).map kvX) rfl (key := .int .i64 n) (.refl _) (d := .v (ptrV p 0)) (.refl _) hlk hks hput ?_
    simp -dsimp
    repeat (first | refine wS ?_ | refine wB ?_ | ((first | refine wR ?_ | refine wD ?_); simp -dsimp) | refine aI ?_)
    have hks2 : KeysOk Tryz.prog 3 ((xs ++ [newR n p]).map kvX) := fun q hq => by
      obtain ⟨x, hx, rfl⟩ := List.mem_map.1 hq
      rcases List.mem_append.1 hx with hx | hx
      · exact int_key (hxs x hx)
      · rw [List.mem_singleton] at hx; subst hx; exact int_key hn
    have hg2 : GetOk ((xs ++ [newR n p]).map kvX) (.int .i64 n) (.v (.pointer none)) (.v (ptrV p 0)) := .inl ⟨xs.map kvX, [], by rw [List.map_append]; rfl⟩
    have e2 : (xs ++ [newR n p]).map kvX = xs.map kvX ++ [kvX (newR n p)] := by rw [List.map_append]; rfl
    rw [e2] at hks2 hg2
    refine vcStop.mapGet Tryz.tab rfl rfl int3_keyed Tryz.zeroValue64 (j := 1001) rfl (kvs := xs.map kvX ++ [kvX (newR n p)]) rfl (key := .int .i64 n) (.refl _) (.v (ptrV p 0)) hlk hks2 hg2 ?_
    simp -dsimp
    repeat (first | refine wS ?_ | refine wB ?_ | ((first | refine wR ?_ | refine wD ?_); simp -dsimp) | refine aI ?_)
    refine WP.ret (finX.ret ⟨(xs, newR n p, []), rfl, .inr ⟨hin, rfl, rfl, rfl, rfl, rfl⟩⟩ (finQ.retWE (S' := mkS 16 [(3, .d (.v (ptrV p 0)))] [(1000, .cells 83 [.row 1001]), (1001, .mp ((xs ++ [newR n p]).map kvX)), (2, bunX c (xs ++ [newR n p]))]) (Wk.lessE [] (by simp) (by simp)) ?_))
    simp -dsimp [allX]
end Go.Proofs.YtjjaabidbeoomaaGreatDoor
