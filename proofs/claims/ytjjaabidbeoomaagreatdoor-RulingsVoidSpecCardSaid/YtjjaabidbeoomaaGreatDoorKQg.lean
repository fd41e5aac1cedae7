/-
  Rulings: files.
-/
import Derived.Test.YtjjaabidbeoomaaGreatDoorKQh
set_option linter.unusedSectionVars false
set_option linter.unusedSimpArgs false
set_option linter.unusedVariables false
namespace Go.Proofs.YtjjaabidbeoomaaGreatDoor
open Go.Xe Go.RowKit

@[simp] def slF (l : List F) : D := .sl 57 (fsC l) l.length false
def filesD (c : List F) : D := .sl 1 (fpL c (casesL c)) (casesL c).length false
def vld (l : List F) : List F := l.filter fun f => (numF f).2
def vS (l : List F) (i : Nat) : List F → St
  | [] => mkS 108 [(3, .d nilD), (15, .d (slF l)), (16, .d (.v (.int .i64 l.length))), (17, .d (.v (.int .i64 (i : Nat))))] []
  | f :: r => mkS 108 [(3, .row 505), (15, .d (slF l)), (16, .d (.v (.int .i64 l.length))), (17, .d (.v (.int .i64 (i : Nat))))] [(505, rB (f :: r))]
theorem case_isI {f : F} (h : fOk f) {n : Int} (hc : caseF f = some n) : isI n := by
  unfold caseF at hc
  split at hc
  · cases hc; exact h.1 47
  · split at hc
    · cases hc; exact h.1 39
    · split at hc
      · cases hc; exact h.1 53
      · cases hc
abbrev getV : AV := .fn (.func 36) [] [.ptr 6 0]
/-- The state at the head of a round. -/
def fS (c : List F) (i : Nat) (xs : List Rc) : St :=
  mkS 108 [(6, .ptr 6 0), (7, getV), (32, .d (slF c)), (33, .d (.v (.int .i64 c.length))), (34, .d (.v (.int .i64 (i : Nat))))] [(600, bunX (c.take i) xs), (6, .cells 83 [.row 29]), (29, .mp (xs.map kvX))]
@[simp] def gS (c : List F) (i : Nat) (t : Nat) (y : AV) (bx : Bxs) : St :=
  mkS 108 [(6, .ptr 6 0), (7, getV), (9, .ptr 9 0), (t, y), (32, .d (slF c)), (33, .d (.v (.int .i64 c.length))), (34, .d (.v (.int .i64 (i : Nat))))] bx
@[simp] def hS (c : List F) (i : Nat) : St := mkS 108 [(6, .ptr 6 0), (7, getV), (32, .d (slF c)), (33, .d (.v (.int .i64 c.length))), (34, .d (.v (.int .i64 (i : Nat))))] []
@[simp] def gB (f : F) (xs : List Rc) : Bxs := [(9, fB f), (6, .cells 83 [.row 29]), (29, .mp (xs.map kvX))]
theorem repC_len : ∀ l : List F, (repC l).length = l.length * 4
  | [] => rfl
  | f :: l => by rw [show repC (f :: l) = fcs f 39 4 ++ repC l from rfl, List.length_append, repC_len l, List.length_cons]; simp; omega
@[simp] theorem MapAt_eq (g : Nat) (l : List Ent3) (c : Nat) : MapAt g l c = .opq (MapP g l c) := rfl
@[simp] theorem ItAt_eq (g c : Nat) (seen : Array Nat) : ItAt g c seen = .opq (ItP g c seen) := rfl
@[simp] theorem ItTook_eq (g : Nat) (l : List Ent3) (c : Nat) (seen : Array Nat) : ItTook g l c seen = .opq fun y w I => ∃ e ∈ left3 l seen, ItP g c (seen.push e.born) y w I := rfl
/-- The file goes back among the others: no row of it was opened. -/
theorem back1_ok {β0 : Nat → Value} {p : Nat} {SL : List AV} {l l' : List (Value × Box)} {cs : List AV} {kvs : List (Value × D)} {S1 : St}
    (h0 : Wk S1 ⟨SL, [(650, Bun l), (1700, .cells 75 cs), (6, .cells 83 [.row 29]), (29, .mp kvs)], []⟩) (hSL : AV.hasL 650 SL = false ∧ AV.hasL 1700 SL = false)
    (hcl : ∀ q ∈ l, Clo q.2) (hcs2 : ∀ k, AV.hasL k cs = false) (hp : ((ptrV p 0, Box.cells 75 cs) :: l).Perm l') :
    Cv ((⟨[], β0, none, false⟩ : Dn).fix 1700 (ptrV p 0)) ⟨[], β0, none, false⟩ S1 ⟨SL, [(650, Bun l'), (6, .cells 83 [.row 29]), (29, .mp kvs)], []⟩ := by
  refine Cv.trans (Wk.cv h0) ?_
  have hc2 : ∀ q ∈ (ptrV p 0, Box.cells 75 cs) :: l, Clo q.2 := fun q hq => by
    rcases List.mem_cons.1 hq with rfl | hq
    · exact ⟨rfl, hcs2⟩
    · exact hcl q hq
  have p2 := Cv.push (ds := (⟨[], β0, none, false⟩ : Dn).fix 1700 (ptrV p 0)) (S := ⟨SL, [(650, Bun l), (1700, .cells 75 cs), (6, .cells 83 [.row 29]), (29, .mp kvs)], []⟩) 1700 650 (b := .cells 75 cs) (l := l) rfl rfl (by decide) (by decide) hcl ⟨rfl, hcs2⟩ SL
    [(6, .cells 83 [.row 29]), (29, .mp kvs)] (PLeL.refl _ _ _) (by simp [PLeBx]) hSL.1 (by simp)
  have e0 : ((⟨[], β0, none, false⟩ : Dn).fix 1700 (ptrV p 0)).β0 1700 = ptrV p 0 := by simp [Dn.fix, upd]
  rw [e0] at p2
  refine p2.trans (Cv.trans (Wk.cv (Wk.bunPerm 650 rfl (by decide) hc2 hp [(6, .cells 83 [.row 29]), (29, .mp kvs)] (by simp [subB]) hSL.1 (by simp))) ?_)
  exact Cv.unfix 1700 (by decide) ⟨rfl, rfl, rfl⟩ (fun i hi => by simp [Dn.fix, upd, hi]) hSL.2 (by simp)
/-- The state of the walk over the map. -/
def eS (c : List F) (g : Nat) (L : List Ent3) (clock : Nat) (seen : Array Nat) : List Int → St
  | [] => mkS 108 [(12, .d nilD), (97, .ptr 20 0)] [(29, MapAt g L clock), (20, ItAt g clock seen)]
  | n :: ns => mkS 108 [(12, .row 503), (97, .ptr 20 0)] [(29, MapAt g L clock), (20, ItAt g clock seen), (503, rP c (n :: ns))]
theorem cases_perm {c : List F} {ns : List Int} (h : ns.Perm (numsL c [])) : (casesL c).Perm ns := by
  have hc := casesL_ok c
  have h1 : (casesL c).Nodup := hc.asc.imp fun {a b} hl e => by omega
  have h2 : ns.Nodup := h.nodup_iff.2 (numsL_nodup c [] List.nodup_nil)
  refine (List.perm_ext_iff_of_nodup h1 h2).2 fun n => ?_
  rw [hc.mem, h.mem_iff, numsL_in]
  simp
theorem numsL_len : ∀ (c : List F) (a : List Int), (numsL c a).length ≤ a.length + c.length
  | [], a => by simp [numsL]
  | f :: c, a => by
    have h1 := numsL_len c (stepN (caseF f) a)
    have h2 : (stepN (caseF f) a).length ≤ a.length + 1 := by
      cases caseF f with
      | none => simp [stepN]
      | some m => simp only [stepN]; split <;> simp
    rw [numsL, List.length_cons]
    omega
/-! ### the code, in parts -/
def Cl : Code → Code
  | .seq a _ => a
  | .loop c => c
  | .block _ c => c
  | .cond _ a _ => a
  | c => c
def Cr : Code → Code
  | .seq _ b => b
  | .cond _ _ b => b
  | c => c
noncomputable def fBody : Code := Tryz.f24.body.getD .skip
/-- The loop's body, at its switch. -/
noncomputable def fK : Code := Cl (Cr (Cr (Cl (Cl (Cr (Cr (Cl (Cl (Cr (Cl (Cr (Cr (Cr (Cr (Cr fBody)))))))))))))))
noncomputable def fA1 : Code := Cl (Cr fK)
noncomputable def fA2 : Code := Cl (Cr (Cr (Cr fK)))
noncomputable def fA3 : Code := Cl (Cr (Cr (Cr (Cr (Cr fK)))))
noncomputable def fTail : Code := Cr (Cr (Cr (Cr (Cr (Cr fBody)))))
/-- The state at the switch. -/
def bS (c : List F) (i : Nat) (f : F) (xs : List Rc) : St :=
  mkS 108 [(6, .ptr 6 0), (7, getV), (9, .ptr 9 0), (32, .d (slF c)), (33, .d (.v (.int .i64 c.length))), (34, .d (.v (.int .i64 (i : Nat))))] [(600, bunX (c.take i) xs), (9, fB f), (6, .cells 83 [.row 29]), (29, .mp (xs.map kvX))]
/-- The state behind it. -/
def dS (c : List F) (i : Nat) (xs : List Rc) : St :=
  mkS 108 [(6, .ptr 6 0), (7, getV), (32, .d (slF c)), (33, .d (.v (.int .i64 c.length))), (34, .d (.v (.int .i64 (i : Nat))))] [(600, bunX (c.take (i + 1)) xs), (6, .cells 83 [.row 29]), (29, .mp (xs.map kvX))]
structure AtF (c : List F) (i : Nat) (f : F) (xs : List Rc) : Prop where
  hi : i < c.length
  hc100 : c.length ≤ 100
  hfv : vOk f
  htk : c.take (i + 1) = c.take i ++ [f]
  hxs : xs.map (·.n) = numsL (c.take i) []
  hxI : ∀ x ∈ xs, isI x.n
  hno : ∀ n, n ∉ xs.map (·.n) → ∀ g ∈ c.take i, caseF g ≠ some n
abbrev AftF (c : List F) (i : Nat) (Q : Exit → St → Prop) : Prop := ∀ xs' S', xs'.map (·.n) = numsL (c.take (i + 1)) [] → Wk S' (dS c i xs') → Q .normal S'
set_option maxRecDepth 10000 in
set_option maxHeartbeats 4000000 in
theorem rul1_ok {c : List F} {i : Nat} {f : F} {xs : List Rc} (h : AtF c i f xs) (hk : f 3 = 10) (hi1 : f 48 = 1) {β0 : Nat → Value} {Q : Exit → St → Prop} (hQ : AftF c i Q) : WP Tryz.prog ⟨[], β0, none, false⟩ noPn fA1 Q (bS c i f xs) := by
  obtain ⟨hi, hc100, hfv, htk, hxs, hxI, hno⟩ := h
  rw [bS]
  simp only [fA1, fK, fBody, Tryz.f24, Cl, Cr, Option.getD]
  obtain ⟨⟨hn1, hn2⟩, _, _⟩ := v_rul hfv hk
  have hcase : caseF f = some (f 47) := by rw [caseF, if_pos hk]
  have hget := get_ok (c.take i) xs (f 47) (hfv.1.1 47) hxI (hno _)
  simp -dsimp
  refine WP.seq ?_
  refine WP.cut4L Tryz.tab rfl ?_
  simp -dsimp
  refine vcX.callX Tryz.body36 hget (rl [(1000, 6), (1001, 29), (1002, 600), (2, 650)]) rfl rfl (by simp) (CallOk.of (by simp [BoxLeq]) rfl (by first | rfl | (simp; done)) (by simp) (by simp)) (fun x => CallOk.of (by simp [BoxLeq]) rfl (by first | rfl | (simp; done)) (by simp) (by simp)) (fun x => by simp) (fun x => ?_)
  obtain ⟨⟨a, x, b⟩, hgn, hgx⟩ := x
  simp only at hgn hgx
  refine ⟨_, Wk.refl _, wpL.ops Tryz.tab ?_⟩
  simp -dsimp
  obtain ⟨hns, hnd2⟩ := get_nums hxs (show GetR xs (f 47) (a, x, b) from ⟨hgn, hgx⟩)
  rw [← hcase] at hns
  rw [← numsL_snoc, ← htk] at hns
  obtain ⟨hna, hnb⟩ := nodup_ne hnd2
  have hfa := flat_ne (c := c.take i) (f := f) (xs := a) fun y hy e => hna y hy (by rw [hcase] at e; rw [hgn]; exact Option.some.inj e)
  have hfb := flat_ne (c := c.take i) (f := f) (xs := b) fun y hy e => hnb y hy (by rw [hcase] at e; rw [hgn]; exact Option.some.inj e)
  rw [← htk] at hfa hfb
  have hclo := clo_mkE (c.take i) (a ++ x :: b)
  rw [flat_at] at hclo
  have hfl : (allX (a, x, b)).flatMap (mkE (c.take i)) = (a.flatMap (mkE (c.take i)) ++ E0 (c.take i) x :: E1 (c.take i) x :: E2 (c.take i) x :: E3 (c.take i) x :: b.flatMap (mkE (c.take i))) := flat_at _ _ _ _
  generalize hL1 : a.flatMap (mkE (c.take i)) = L1 at hclo hfl hfa
  generalize hL2 : b.flatMap (mkE (c.take i)) = L2 at hclo hfl hfb
  have hclo1 : ∀ q ∈ L1 ++ E1 (c.take i) x :: E2 (c.take i) x :: E3 (c.take i) x :: L2, Clo q.2 := fun q hq => hclo q (by
    simp only [List.mem_append, List.mem_cons] at hq ⊢
    rcases hq with h | h
    · exact .inl h
    · exact .inr (.inr h))
  refine WP.weak (Wk.lessE [] (S' := gS c i 10 (.d (.v (ptrV x.p 0))) (gB f (a ++ x :: b) ++ [(650, Bun (L1 ++ E0 (c.take i) x :: E1 (c.take i) x :: E2 (c.take i) x :: E3 (c.take i) x :: L2))])) (by simp) (by simp [← hfl, allX])) ?_
  have cv1 := Cv.pull (ds := ⟨[], β0, none, false⟩) (S := gS c i 10 (.d (.v (ptrV x.p 0))) (gB f (a ++ x :: b) ++ [(650, Bun (L1 ++ E0 (c.take i) x :: E1 (c.take i) x :: E2 (c.take i) x :: E3 (c.take i) x :: L2))]))
    1700 650 (l1 := L1) (l2 := E1 (c.take i) x :: E2 (c.take i) x :: E3 (c.take i) x :: L2) (v := ptrV x.p 0) (b := .cells 75 (cellsR (c.take i) x)) rfl ⟨by simp, by simp⟩ (by decide) hclo
    (gS c i 10 (.ptr 1700 0) []).sl (gB f (a ++ x :: b)) (fun _ => by simp [PLeL]) (fun _ => by simp [PLeBx]) (by simp) (by simp)
  have cv2 := Cv.pull (ds := (⟨[], β0, none, false⟩ : Dn).fix 1700 (ptrV x.p 0)) (S := ⟨(gS c i 10 (.ptr 1700 0) []).sl, (650, Bun (L1 ++ E1 (c.take i) x :: E2 (c.take i) x :: E3 (c.take i) x :: L2)) :: (1700, .cells 75 (cellsR (c.take i) x)) :: gB f (a ++ x :: b), []⟩)
    1702 650 (l1 := L1) (l2 := E2 (c.take i) x :: E3 (c.take i) x :: L2) (v := x.v1) (b := .row 62 57 ((c.take i).filter (isRul x.n 1)).length ((fsC ((c.take i).filter (isRul x.n 1))).map .d)) rfl ⟨by simp, by simp [cellsR]⟩ (by decide) hclo1
    (gS c i 10 (.ptr 1700 0) []).sl ((1700, .cells 75 [.d (.v (.int .i64 x.n)), .d nilD, .row 1702, .d (.v x.v2), .d (.v x.v3), .d (.v (.bool ((c.take i).any (isApp x.n))))]) :: gB f (a ++ x :: b)) (fun _ => by simp [PLeL]) (fun hsh => by simp [PLeBx, PLeB, PLeL, cellsR, PLe.toRow _ hsh]) (by simp) (by simp)
  refine WP.cv (cv1.trans cv2) ?_
  have hrl : ((c.take i).filter (isRul x.n 1)).length ≤ 100 := Nat.le_trans (List.length_filter_le _ _) (by rw [List.length_take]; omega)
  have hR := fsC_len ((c.take i).filter (isRul x.n 1))
  simp -dsimp
  repeat (first | refine wS ?_ | refine wB ?_ | ((first | refine wR ?_ | refine wD ?_); simp -dsimp [hi1]) | refine aI ?_)
  have hrow : ∀ k, AV.hasL k ((fsC ((c.take i).filter (isRul x.n 1))).map .d ++ (fcs f 0 57).map .d) = false := fun k => by
    rw [← List.map_append]; exact hasL_ds fun y h => by obtain ⟨d, _, rfl⟩ := List.mem_map.1 h; exact ⟨d, rfl⟩
  have hc2 : ∀ q ∈ L1 ++ E2 (c.take i) x :: E3 (c.take i) x :: L2, Clo q.2 := fun q hq => hclo1 q (by
    simp only [List.mem_append, List.mem_cons] at hq ⊢
    rcases hq with h | h
    · exact .inl h
    · exact .inr (.inr h))
  refine ⟨Value, fun v => ⟨(hS c i).sl, [(650, Bun ((a ++ { x with v1 := v } :: b).flatMap (mkE (c.take (i + 1))))), (6, .cells 83 [.row 29]), (29, .mp ((a ++ x :: b).map kvX))], []⟩, back_ok (fun y => [.d (.v (.int .i64 x.n)), .d nilD, y, .d (.v x.v2), .d (.v x.v3), .d (.v (.bool ((c.take i).any (isApp x.n))))]) (l := L1 ++ E2 (c.take i) x :: E3 (c.take i) x :: L2) (T := 62) (sz := 57) (n := ((c.take i).filter (isRul x.n 1)).length + 1) (rc := (fsC ((c.take i).filter (isRul x.n 1))).map .d ++ (fcs f 0 57).map .d)
    (Wk.lessE [9, 60] (by simp) (by simp)) ⟨by simp, by simp, by simp⟩ hc2 hrow (fun v => by simp [PLeL]) (fun v k => by simp) (fun v => ?_), fun v => ?_⟩
  · rw [List.flatMap_append, List.flatMap_cons, hfa, hfb, htk, mkE_r1 v hk hgn.symm hi1]
    exact perm_in2 _ _ _ _
  refine hQ (a ++ { x with v1 := v } :: b) _ ?_ (Wk.go [] 650 600 (by decide) (by simp [dS]) (by simp [dS]) (by simp [dS, kvX]))
  rw [← hns]
  simp
set_option maxRecDepth 10000 in
set_option maxHeartbeats 4000000 in
theorem rul2_ok {c : List F} {i : Nat} {f : F} {xs : List Rc} (h : AtF c i f xs) (hk : f 3 = 10) (hi1 : f 48 = 2) {β0 : Nat → Value} {Q : Exit → St → Prop} (hQ : AftF c i Q) : WP Tryz.prog ⟨[], β0, none, false⟩ noPn fA1 Q (bS c i f xs) := by
  obtain ⟨hi, hc100, hfv, htk, hxs, hxI, hno⟩ := h
  rw [bS]
  simp only [fA1, fK, fBody, Tryz.f24, Cl, Cr, Option.getD]
  obtain ⟨⟨hn1, hn2⟩, _, _⟩ := v_rul hfv hk
  have hcase : caseF f = some (f 47) := by rw [caseF, if_pos hk]
  have hget := get_ok (c.take i) xs (f 47) (hfv.1.1 47) hxI (hno _)
  simp -dsimp
  refine WP.seq ?_
  refine WP.cut4L Tryz.tab rfl ?_
  simp -dsimp
  refine vcX.callX Tryz.body36 hget (rl [(1000, 6), (1001, 29), (1002, 600), (2, 650)]) rfl rfl (by simp) (CallOk.of (by simp [BoxLeq]) rfl (by first | rfl | (simp; done)) (by simp) (by simp)) (fun x => CallOk.of (by simp [BoxLeq]) rfl (by first | rfl | (simp; done)) (by simp) (by simp)) (fun x => by simp) (fun x => ?_)
  obtain ⟨⟨a, x, b⟩, hgn, hgx⟩ := x
  simp only at hgn hgx
  refine ⟨_, Wk.refl _, wpL.ops Tryz.tab ?_⟩
  simp -dsimp
  obtain ⟨hns, hnd2⟩ := get_nums hxs (show GetR xs (f 47) (a, x, b) from ⟨hgn, hgx⟩)
  rw [← hcase] at hns
  rw [← numsL_snoc, ← htk] at hns
  obtain ⟨hna, hnb⟩ := nodup_ne hnd2
  have hfa := flat_ne (c := c.take i) (f := f) (xs := a) fun y hy e => hna y hy (by rw [hcase] at e; rw [hgn]; exact Option.some.inj e)
  have hfb := flat_ne (c := c.take i) (f := f) (xs := b) fun y hy e => hnb y hy (by rw [hcase] at e; rw [hgn]; exact Option.some.inj e)
  rw [← htk] at hfa hfb
  have hclo := clo_mkE (c.take i) (a ++ x :: b)
  rw [flat_at] at hclo
  have hfl : (allX (a, x, b)).flatMap (mkE (c.take i)) = (a.flatMap (mkE (c.take i)) ++ E0 (c.take i) x :: E1 (c.take i) x :: E2 (c.take i) x :: E3 (c.take i) x :: b.flatMap (mkE (c.take i))) := flat_at _ _ _ _
  generalize hL1 : a.flatMap (mkE (c.take i)) = L1 at hclo hfl hfa
  generalize hL2 : b.flatMap (mkE (c.take i)) = L2 at hclo hfl hfb
  have hclo1 : ∀ q ∈ L1 ++ E1 (c.take i) x :: E2 (c.take i) x :: E3 (c.take i) x :: L2, Clo q.2 := fun q hq => hclo q (by
    simp only [List.mem_append, List.mem_cons] at hq ⊢
    rcases hq with h | h
    · exact .inl h
    · exact .inr (.inr h))
  refine WP.weak (Wk.lessE [] (S' := gS c i 10 (.d (.v (ptrV x.p 0))) (gB f (a ++ x :: b) ++ [(650, Bun (L1 ++ E0 (c.take i) x :: E1 (c.take i) x :: E2 (c.take i) x :: E3 (c.take i) x :: L2))])) (by simp) (by simp [← hfl, allX])) ?_
  have cv1 := Cv.pull (ds := ⟨[], β0, none, false⟩) (S := gS c i 10 (.d (.v (ptrV x.p 0))) (gB f (a ++ x :: b) ++ [(650, Bun (L1 ++ E0 (c.take i) x :: E1 (c.take i) x :: E2 (c.take i) x :: E3 (c.take i) x :: L2))]))
    1700 650 (l1 := L1) (l2 := E1 (c.take i) x :: E2 (c.take i) x :: E3 (c.take i) x :: L2) (v := ptrV x.p 0) (b := .cells 75 (cellsR (c.take i) x)) rfl ⟨by simp, by simp⟩ (by decide) hclo
    (gS c i 10 (.ptr 1700 0) []).sl (gB f (a ++ x :: b)) (fun _ => by simp [PLeL]) (fun _ => by simp [PLeBx]) (by simp) (by simp)
  have e2 : L1 ++ E1 (c.take i) x :: E2 (c.take i) x :: E3 (c.take i) x :: L2 = (L1 ++ [E1 (c.take i) x]) ++ E2 (c.take i) x :: E3 (c.take i) x :: L2 := by simp
  rw [e2] at cv1
  have cv2 := Cv.pull (ds := (⟨[], β0, none, false⟩ : Dn).fix 1700 (ptrV x.p 0)) (S := ⟨(gS c i 10 (.ptr 1700 0) []).sl, (650, Bun ((L1 ++ [E1 (c.take i) x]) ++ E2 (c.take i) x :: E3 (c.take i) x :: L2)) :: (1700, .cells 75 (cellsR (c.take i) x)) :: gB f (a ++ x :: b), []⟩)
    1702 650 (l1 := L1 ++ [E1 (c.take i) x]) (l2 := E3 (c.take i) x :: L2) (v := x.v2) (b := .row 62 57 ((c.take i).filter (isRul x.n 2)).length ((fsC ((c.take i).filter (isRul x.n 2))).map .d)) rfl ⟨by simp, by simp [cellsR]⟩ (by decide) (by rw [← e2]; exact hclo1)
    (gS c i 10 (.ptr 1700 0) []).sl ((1700, .cells 75 [.d (.v (.int .i64 x.n)), .d nilD, .d (.v x.v1), .row 1702, .d (.v x.v3), .d (.v (.bool ((c.take i).any (isApp x.n))))]) :: gB f (a ++ x :: b)) (fun _ => by simp [PLeL]) (fun hsh => by simp [PLeBx, PLeB, PLeL, cellsR, PLe.toRow _ hsh]) (by simp) (by simp)
  refine WP.cv (cv1.trans cv2) ?_
  have hrl : ((c.take i).filter (isRul x.n 2)).length ≤ 100 := Nat.le_trans (List.length_filter_le _ _) (by rw [List.length_take]; omega)
  have hR := fsC_len ((c.take i).filter (isRul x.n 2))
  simp -dsimp
  repeat (first | refine wS ?_ | refine wB ?_ | ((first | refine wR ?_ | refine wD ?_); simp -dsimp [hi1]) | refine aI ?_)
  have hrow : ∀ k, AV.hasL k ((fsC ((c.take i).filter (isRul x.n 2))).map .d ++ (fcs f 0 57).map .d) = false := fun k => by
    rw [← List.map_append]; exact hasL_ds fun y h => by obtain ⟨d, _, rfl⟩ := List.mem_map.1 h; exact ⟨d, rfl⟩
  have hc2 : ∀ q ∈ L1 ++ E1 (c.take i) x :: E3 (c.take i) x :: L2, Clo q.2 := fun q hq => hclo1 q (by
    simp only [List.mem_append, List.mem_cons] at hq ⊢
    grind)
  refine ⟨Value, fun v => ⟨(hS c i).sl, [(650, Bun ((a ++ { x with v2 := v } :: b).flatMap (mkE (c.take (i + 1))))), (6, .cells 83 [.row 29]), (29, .mp ((a ++ x :: b).map kvX))], []⟩, back_ok (fun y => [.d (.v (.int .i64 x.n)), .d nilD, .d (.v x.v1), y, .d (.v x.v3), .d (.v (.bool ((c.take i).any (isApp x.n))))]) (l := L1 ++ E1 (c.take i) x :: E3 (c.take i) x :: L2) (T := 62) (sz := 57) (n := ((c.take i).filter (isRul x.n 2)).length + 1) (rc := (fsC ((c.take i).filter (isRul x.n 2))).map .d ++ (fcs f 0 57).map .d)
    (Wk.lessE [9, 60] (by simp) (by simp)) ⟨by simp, by simp, by simp⟩ hc2 hrow (fun v => by simp [PLeL]) (fun v k => by simp) (fun v => ?_), fun v => ?_⟩
  · rw [List.flatMap_append, List.flatMap_cons, hfa, hfb, htk, mkE_r2 v hk hgn.symm hi1]
    exact perm_in3 _ _ _ _ _
  refine hQ (a ++ { x with v2 := v } :: b) _ ?_ (Wk.go [] 650 600 (by decide) (by simp [dS]) (by simp [dS]) (by simp [dS, kvX]))
  rw [← hns]
  simp
set_option maxRecDepth 10000 in
set_option maxHeartbeats 4000000 in
theorem rep_ok {c : List F} {i : Nat} {f : F} {xs : List Rc} (h : AtF c i f xs) (hk : ¬ f 3 = 10) (hq : f 3 = 8) {β0 : Nat → Value} {Q : Exit → St → Prop} (hQ : AftF c i Q) : WP Tryz.prog ⟨[], β0, none, false⟩ noPn fA2 Q (bS c i f xs) := by
  obtain ⟨hi, hc100, hfv, htk, hxs, hxI, hno⟩ := h
  rw [bS]
  simp only [fA2, fK, fBody, Tryz.f24, Cl, Cr, Option.getD]
  simp -dsimp
  obtain ⟨⟨hn1, hn2⟩, _⟩ := v_rep hfv hq
  have hcase : caseF f = some (f 39) := by rw [caseF, if_neg hk, if_pos hq]
  have hget := get_ok (c.take i) xs (f 39) (hfv.1.1 39) hxI (hno _)
  refine WP.seq ?_
  refine WP.cut4L Tryz.tab rfl ?_
  simp -dsimp
  refine vcX.callX Tryz.body36 hget (rl [(1000, 6), (1001, 29), (1002, 600), (2, 650)]) rfl rfl (by simp) (CallOk.of (by simp [BoxLeq]) rfl (by first | rfl | (simp; done)) (by simp) (by simp)) (fun x => CallOk.of (by simp [BoxLeq]) rfl (by first | rfl | (simp; done)) (by simp) (by simp)) (fun x => by simp) (fun x => ?_)
  obtain ⟨⟨a, x, b⟩, hgn, hgx⟩ := x
  simp only at hgn hgx
  refine ⟨_, Wk.refl _, wpL.ops Tryz.tab ?_⟩
  simp -dsimp
  obtain ⟨hns, hnd2⟩ := get_nums hxs (show GetR xs (f 39) (a, x, b) from ⟨hgn, hgx⟩)
  rw [← hcase] at hns
  rw [← numsL_snoc, ← htk] at hns
  obtain ⟨hna, hnb⟩ := nodup_ne hnd2
  have hfa := flat_ne (c := c.take i) (f := f) (xs := a) fun y hy e => hna y hy (by rw [hcase] at e; rw [hgn]; exact Option.some.inj e)
  have hfb := flat_ne (c := c.take i) (f := f) (xs := b) fun y hy e => hnb y hy (by rw [hcase] at e; rw [hgn]; exact Option.some.inj e)
  rw [← htk] at hfa hfb
  have hclo := clo_mkE (c.take i) (a ++ x :: b)
  rw [flat_at] at hclo
  have hfl : (allX (a, x, b)).flatMap (mkE (c.take i)) = (a.flatMap (mkE (c.take i)) ++ E0 (c.take i) x :: E1 (c.take i) x :: E2 (c.take i) x :: E3 (c.take i) x :: b.flatMap (mkE (c.take i))) := flat_at _ _ _ _
  generalize hL1 : a.flatMap (mkE (c.take i)) = L1 at hclo hfl hfa
  generalize hL2 : b.flatMap (mkE (c.take i)) = L2 at hclo hfl hfb
  have hclo1 : ∀ q ∈ L1 ++ E1 (c.take i) x :: E2 (c.take i) x :: E3 (c.take i) x :: L2, Clo q.2 := fun q hq => hclo q (by
    simp only [List.mem_append, List.mem_cons] at hq ⊢
    rcases hq with h | h
    · exact .inl h
    · exact .inr (.inr h))
  refine WP.weak (Wk.lessE [] (S' := gS c i 11 (.d (.v (ptrV x.p 0))) (gB f (a ++ x :: b) ++ [(650, Bun (L1 ++ E0 (c.take i) x :: E1 (c.take i) x :: E2 (c.take i) x :: E3 (c.take i) x :: L2))])) (by simp) (by simp [← hfl, allX])) ?_
  have cv1 := Cv.pull (ds := ⟨[], β0, none, false⟩) (S := gS c i 11 (.d (.v (ptrV x.p 0))) (gB f (a ++ x :: b) ++ [(650, Bun (L1 ++ E0 (c.take i) x :: E1 (c.take i) x :: E2 (c.take i) x :: E3 (c.take i) x :: L2))]))
    1700 650 (l1 := L1) (l2 := E1 (c.take i) x :: E2 (c.take i) x :: E3 (c.take i) x :: L2) (v := ptrV x.p 0) (b := .cells 75 (cellsR (c.take i) x)) rfl ⟨by simp, by simp⟩ (by decide) hclo
    (gS c i 11 (.ptr 1700 0) []).sl (gB f (a ++ x :: b)) (fun _ => by simp [PLeL]) (fun _ => by simp [PLeBx]) (by simp) (by simp)
  have e2 : L1 ++ E1 (c.take i) x :: E2 (c.take i) x :: E3 (c.take i) x :: L2 = (L1 ++ [E1 (c.take i) x, E2 (c.take i) x]) ++ E3 (c.take i) x :: L2 := by simp
  rw [e2] at cv1
  have cv2 := Cv.pull (ds := (⟨[], β0, none, false⟩ : Dn).fix 1700 (ptrV x.p 0)) (S := ⟨(gS c i 11 (.ptr 1700 0) []).sl, (650, Bun ((L1 ++ [E1 (c.take i) x, E2 (c.take i) x]) ++ E3 (c.take i) x :: L2)) :: (1700, .cells 75 (cellsR (c.take i) x)) :: gB f (a ++ x :: b), []⟩)
    1702 650 (l1 := L1 ++ [E1 (c.take i) x, E2 (c.take i) x]) (l2 := L2) (v := x.v3) (b := .row 54 4 ((c.take i).filter (isRep x.n)).length ((repC ((c.take i).filter (isRep x.n))).map .d)) rfl ⟨by simp, by simp [cellsR]⟩ (by decide) (by rw [← e2]; exact hclo1)
    (gS c i 11 (.ptr 1700 0) []).sl ((1700, .cells 75 [.d (.v (.int .i64 x.n)), .d nilD, .d (.v x.v1), .d (.v x.v2), .row 1702, .d (.v (.bool ((c.take i).any (isApp x.n))))]) :: gB f (a ++ x :: b)) (fun _ => by simp [PLeL]) (fun hsh => by simp [PLeBx, PLeB, PLeL, cellsR, PLe.toRow _ hsh]) (by simp) (by simp)
  refine WP.cv (cv1.trans cv2) ?_
  have hrl : ((c.take i).filter (isRep x.n)).length ≤ 100 := Nat.le_trans (List.length_filter_le _ _) (by rw [List.length_take]; omega)
  have hR := repC_len ((c.take i).filter (isRep x.n))
  simp -dsimp
  repeat (first | refine wS ?_ | refine wB ?_ | ((first | refine wR ?_ | refine wD ?_); simp -dsimp) | refine aI ?_)
  have hrow : ∀ k, AV.hasL k ((repC ((c.take i).filter (isRep x.n))).map .d ++ (fcs f 39 4).map .d) = false := fun k => by
    rw [← List.map_append]; exact hasL_ds fun y h => by obtain ⟨d, _, rfl⟩ := List.mem_map.1 h; exact ⟨d, rfl⟩
  have hc2 : ∀ q ∈ L1 ++ E1 (c.take i) x :: E2 (c.take i) x :: L2, Clo q.2 := fun q hq => hclo1 q (by
    simp only [List.mem_append, List.mem_cons] at hq ⊢
    grind)
  refine ⟨Value, fun v => ⟨(hS c i).sl, [(650, Bun ((a ++ { x with v3 := v } :: b).flatMap (mkE (c.take (i + 1))))), (6, .cells 83 [.row 29]), (29, .mp ((a ++ x :: b).map kvX))], []⟩, back_ok (fun y => [.d (.v (.int .i64 x.n)), .d nilD, .d (.v x.v1), .d (.v x.v2), y, .d (.v (.bool ((c.take i).any (isApp x.n))))]) (l := L1 ++ E1 (c.take i) x :: E2 (c.take i) x :: L2) (T := 54) (sz := 4) (n := ((c.take i).filter (isRep x.n)).length + 1) (rc := (repC ((c.take i).filter (isRep x.n))).map .d ++ (fcs f 39 4).map .d)
    (Wk.go [9, 79] 80 61 (by decide) (by simp) (by simp) (by simp)) ⟨by simp, by simp, by simp⟩ hc2 hrow (fun v => by simp [PLeL]) (fun v k => by simp) (fun v => ?_), fun v => ?_⟩
  · rw [List.flatMap_append, List.flatMap_cons, hfa, hfb, htk, mkE_rep v hq hgn.symm]
    exact perm_in4 _ _ _ _ _ _
  refine hQ (a ++ { x with v3 := v } :: b) _ ?_ (Wk.go [] 650 600 (by decide) (by simp [dS]) (by simp [dS]) (by simp [dS, kvX]))
  rw [← hns]
  simp
set_option maxRecDepth 10000 in
set_option maxHeartbeats 4000000 in
theorem app_ok {c : List F} {i : Nat} {f : F} {xs : List Rc} (h : AtF c i f xs) (hk : ¬ f 3 = 10) (hq : ¬ f 3 = 8) (hz : f 3 = 11) {β0 : Nat → Value} {Q : Exit → St → Prop} (hQ : AftF c i Q) : WP Tryz.prog ⟨[], β0, none, false⟩ noPn fA3 Q (bS c i f xs) := by
  obtain ⟨hi, hc100, hfv, htk, hxs, hxI, hno⟩ := h
  rw [bS]
  simp only [fA3, fK, fBody, Tryz.f24, Cl, Cr, Option.getD]
  simp -dsimp
  repeat (first | refine wS ?_ | refine wB ?_ | ((first | refine wR ?_ | refine wD ?_); simp -dsimp) | refine aI ?_)
  refine WP.cond (b := decide (f 54 = 1)) (by simp) (fun hs => ?_) (fun hs => ?_)
  · have hs := of_decide_eq_true hs
    obtain ⟨⟨hn1, hn2⟩, _⟩ := v_app hfv hz
    have hcase : caseF f = some (f 53) := by rw [caseF, if_neg hk, if_neg hq, if_pos ⟨hz, hs⟩]
    have hget := get_ok (c.take i) xs (f 53) (hfv.1.1 53) hxI (hno _)
    refine WP.cut4L Tryz.tab rfl ?_
    simp -dsimp
    refine vcX.callX Tryz.body36 hget (rl [(1000, 6), (1001, 29), (1002, 600), (2, 650)]) rfl rfl (by simp) (CallOk.of (by simp [BoxLeq]) rfl (by first | rfl | (simp; done)) (by simp) (by simp)) (fun x => CallOk.of (by simp [BoxLeq]) rfl (by first | rfl | (simp; done)) (by simp) (by simp)) (fun x => by simp) (fun x => ?_)
    obtain ⟨⟨a, x, b⟩, hgn, hgx⟩ := x
    simp only at hgn hgx
    obtain ⟨hns, hnd2⟩ := get_nums hxs (show GetR xs (f 53) (a, x, b) from ⟨hgn, hgx⟩)
    rw [← hcase] at hns
    rw [← numsL_snoc, ← htk] at hns
    obtain ⟨hna, hnb⟩ := nodup_ne hnd2
    have hfa := flat_ne (c := c.take i) (f := f) (xs := a) fun y hy e => hna y hy (by rw [hcase] at e; rw [hgn]; exact Option.some.inj e)
    have hfb := flat_ne (c := c.take i) (f := f) (xs := b) fun y hy e => hnb y hy (by rw [hcase] at e; rw [hgn]; exact Option.some.inj e)
    rw [← htk] at hfa hfb
    have hclo := clo_mkE (c.take i) (a ++ x :: b)
    rw [flat_at] at hclo
    have hfl : (allX (a, x, b)).flatMap (mkE (c.take i)) = (a.flatMap (mkE (c.take i)) ++ E0 (c.take i) x :: E1 (c.take i) x :: E2 (c.take i) x :: E3 (c.take i) x :: b.flatMap (mkE (c.take i))) := flat_at _ _ _ _
    generalize hL1 : a.flatMap (mkE (c.take i)) = L1 at hclo hfl hfa
    generalize hL2 : b.flatMap (mkE (c.take i)) = L2 at hclo hfl hfb
    have hclo1 : ∀ q ∈ L1 ++ E1 (c.take i) x :: E2 (c.take i) x :: E3 (c.take i) x :: L2, Clo q.2 := fun q hq => hclo q (by
      simp only [List.mem_append, List.mem_cons] at hq ⊢
      grind)
    refine ⟨gS c i 92 (.d (.v (ptrV x.p 0))) (gB f (a ++ x :: b) ++ [(650, Bun (L1 ++ E0 (c.take i) x :: E1 (c.take i) x :: E2 (c.take i) x :: E3 (c.take i) x :: L2))]), Wk.lessE [] (by simp) (by simp [← hfl, allX]), ?_⟩
    have cv1 := Cv.pull (ds := ⟨[], β0, none, false⟩) (S := gS c i 92 (.d (.v (ptrV x.p 0))) (gB f (a ++ x :: b) ++ [(650, Bun (L1 ++ E0 (c.take i) x :: E1 (c.take i) x :: E2 (c.take i) x :: E3 (c.take i) x :: L2))]))
      1700 650 (l1 := L1) (l2 := E1 (c.take i) x :: E2 (c.take i) x :: E3 (c.take i) x :: L2) (v := ptrV x.p 0) (b := .cells 75 (cellsR (c.take i) x)) rfl ⟨by simp, by simp⟩ (by decide) hclo
      (gS c i 92 (.ptr 1700 0) []).sl (gB f (a ++ x :: b)) (fun _ => by simp [PLeL]) (fun _ => by simp [PLeBx]) (by simp) (by simp)
    refine wpL.cvOps Tryz.tab cv1 ?_
    simp -dsimp [cellsR]
    have hc0 : Clo (Box.cells 75 (cellsR (c.take (i + 1)) x)) := ⟨rfl, fun k => rfl⟩
    refine ⟨Unit, fun _ => ⟨(hS c i).sl, [(650, Bun ((a ++ x :: b).flatMap (mkE (c.take (i + 1))))), (6, .cells 83 [.row 29]), (29, .mp ((a ++ x :: b).map kvX))], []⟩, Cv.cvo (back1_ok (p := x.p) (l := L1 ++ E1 (c.take i) x :: E2 (c.take i) x :: E3 (c.take i) x :: L2) (cs := [.d (.v (.int .i64 x.n)), .d nilD, .d (.v x.v1), .d (.v x.v2), .d (.v x.v3), .d (.v (.bool true))]) (Wk.lessE [9] (by simp) (by simp)) ⟨by simp, by simp⟩ hclo1 (fun k => rfl) ?_), fun _ => ?_⟩
    · rw [List.flatMap_append, List.flatMap_cons, hfa, hfb, htk, mkE_app hz hs hgn.symm]
      exact List.perm_middle.symm
    refine hQ (a ++ x :: b) _ ?_ (Wk.go [] 650 600 (by decide) (by simp [dS]) (by simp [dS]) (by simp [dS, kvX]))
    exact hns
  · have hs := of_decide_eq_false hs
    have hcase : caseF f = none := by rw [caseF, if_neg hk, if_neg hq, if_neg (fun h => hs h.2)]
    have hall : xs.flatMap (mkE (c.take (i + 1))) = xs.flatMap (mkE (c.take i)) := by rw [htk]; exact flat_ne fun y _ => by rw [hcase]; simp
    have hns : xs.map (·.n) = numsL (c.take (i + 1)) [] := by rw [htk, numsL_snoc, hcase, hxs]; rfl
    refine WP.skip ?_
    refine hQ xs _ ?_ (Wk.lessE [9] (by simp [dS]) (by simp [dS, hall]))
    exact hns
set_option maxRecDepth 10000 in
set_option maxHeartbeats 4000000 in
theorem tail_ok {c : List F} {xs : List Rc} (hc100 : c.length ≤ 100) (hxs : xs.map (·.n) = numsL c []) {β0 : Nat → Value} {Q : Exit → St → Prop} (hQ : ∀ S', Wk S' (mkS 108 [(2, .d (filesD c))] []) → Q .ret S') :
    WP Tryz.prog ⟨[], β0, none, false⟩ noPn fTail Q (mkS 108 [(6, .ptr 6 0)] [(600, bunX c xs), (6, .cells 83 [.row 29]), (29, .mp (xs.map kvX))]) := by
  simp only [fTail, fBody, Tryz.f24, Cl, Cr, Option.getD]
  simp -dsimp
  have hfd : ∀ x ∈ xs, FD (xs.flatMap (mkE c)) (.v (ptrV x.p 0)) (fpD c x.n) := fun x hx => by
    have hin : ∀ q ∈ mkE c x, q ∈ xs.flatMap (mkE c) := fun q hq => List.mem_flatMap.2 ⟨x, hx, hq⟩
    have h0 : (ptrV x.p 0, Box.cells 75 (([.v (.int .i64 x.n), nilD, .v x.v1, .v x.v2, .v x.v3, .v (.bool (c.any (isApp x.n)))] : List D).map .d)) ∈ xs.flatMap (mkE c) := hin _ (by simp [mkE, cellsR])
    exact FD.ip h0 ⟨.refl _ _, .refl _ _, FD.sl (T := 62) (hin _ (by simp [mkE])), FD.sl (T := 62) (hin _ (by simp [mkE])), FD.sl (T := 54) (hin _ (by simp [mkE])), .refl _ _, trivial⟩
  refine WP.weak (Wk.melt 600 (l := xs.flatMap (mkE c)) rfl (clo_mkE c xs) (mkS 108 [(6, .ptr 6 0)] []).sl [(6, .cells 83 [.row 29]), (29, .mp (xs.map fun x => (.int .i64 x.n, fpD c x.n)))] (by simp [FLeL]) ?_) ?_
  · refine ⟨⟨by decide, FB.refl _ _⟩, ⟨by decide, ?_⟩, trivial⟩
    refine ⟨by rw [List.map_map, List.map_map]; rfl, ?_⟩
    generalize xs.flatMap (mkE c) = L at hfd
    clear hxs
    induction xs with
    | nil => trivial
    | cons x xs ih => exact ⟨hfd x (by simp), ih fun y hy => hfd y (by simp [hy])⟩
  refine WP.openMap 29 rfl fun g L clock hL hok => ?_
  have hLd : ∀ e ∈ L, e.d = fpD c (keyD e.d) := fun e he => by
    have h0 : (e.key, e.d) ∈ xs.map fun x => (Value.int .i64 x.n, fpD c x.n) := by rw [← hL]; exact List.mem_map.2 ⟨e, he, rfl⟩
    obtain ⟨x, _, hx⟩ := List.mem_map.1 h0
    have h2 := congrArg Prod.snd hx
    simp only at h2
    rw [← h2]; rfl
  have hLn : (L.map fun e => keyD e.d) = numsL c [] := by
    rw [← hxs]
    have := congrArg (List.map fun q : Value × D => keyD q.2) hL
    rw [List.map_map, List.map_map] at this
    exact this
  have hlen : (numsL c []).length ≤ 100 := Nat.le_trans (numsL_len c []) (by simpa using hc100)
  have hl0 : left3 L #[] = L := List.filter_eq_self.2 (by simp)
  simp -dsimp
  repeat (first | refine wS ?_ | refine wB ?_ | ((first | refine wR ?_ | refine wD ?_); simp -dsimp) | refine aI ?_)
  refine vcStop.range Tryz.tab rfl rfl 20 rfl rfl (by simp) ?_
  simp -dsimp
  repeat (first | refine wS ?_ | refine wB ?_ | ((first | refine wR ?_ | refine wD ?_); simp -dsimp) | refine aI ?_)
  refine WP.loopWk (fun m S => ∃ seen ns, m = (left3 L seen).length ∧ (ns ++ (left3 L seen).map fun e => keyD e.d).Perm (numsL c []) ∧ S = eS c g L clock seen ns) L.length (S0 := eS c g L clock #[] []) (Wk.lessE [6] (by simp [eS]) (by simp [eS])) ⟨#[], [], by rw [hl0], by rw [hl0, hLn]; exact List.Perm.refl _, rfl⟩ ?_
  rintro m _ ⟨seen, ns, hm, hper, rfl⟩
  cases hl3 : left3 L seen with
  | nil =>
    rw [hl3, List.map_nil, List.append_nil] at hper
    have hcp := cases_perm hper
    cases ns with
    | nil =>
      rw [eS]
      simp -dsimp
      repeat (first | refine wS ?_ | refine wB ?_ | ((first | refine wR ?_ | refine wD ?_); simp -dsimp) | refine aI ?_)
      refine vcStop.nextOver rfl rfl (j := 29) rfl rfl hok hl3 ?_
      simp -dsimp
      repeat (first | refine wS ?_ | refine wB ?_ | ((first | refine wR ?_ | refine wD ?_); simp -dsimp) | refine aI ?_)
      refine WP.cond (b := false) (by simp) (fun h => by cases h) (fun _ => ?_)
      refine WP.exit ?_
      simp -dsimp
      repeat (first | refine wS ?_ | refine wB ?_ | ((first | refine wR ?_ | refine wD ?_); simp -dsimp) | refine aI ?_)
      refine vcStop.call0 Tryz.body37 sortedP_nil rfl rfl (by simp) ?_
      simp -dsimp
      repeat (first | refine wS ?_ | refine wB ?_ | ((first | refine wR ?_ | refine wD ?_); simp -dsimp) | refine aI ?_)
      have hce : casesL c = [] := List.Perm.eq_nil hcp
      exact WP.ret (hQ _ (Wk.trans (Wk.lessE [20, 29] (S' := mkS 108 [(2, .d nilD)] []) (by simp) (by simp)) (Wk.trans (Wk.nilSlot 2 602 64 1 (by simp) (by simp)) (Wk.trans (Wk.freeze (k := 602) (T := 64) (sz := 1) (n := 0) (ds := []) (by simp)) (Wk.lessE [] (by simp [filesD, hce, fpL]) (by simp))))))
    | cons n ns =>
      have hcn : (n :: ns).length ≤ 100 := by rw [hper.length_eq]; exact hlen
      rw [eS]
      simp -dsimp
      repeat (first | refine wS ?_ | refine wB ?_ | ((first | refine wR ?_ | refine wD ?_); simp -dsimp) | refine aI ?_)
      refine vcStop.nextOver rfl rfl (j := 29) rfl rfl hok hl3 ?_
      simp -dsimp
      repeat (first | refine wS ?_ | refine wB ?_ | ((first | refine wR ?_ | refine wD ?_); simp -dsimp) | refine aI ?_)
      refine WP.cond (b := false) (by simp) (fun h => by cases h) (fun _ => ?_)
      refine WP.exit ?_
      simp -dsimp
      repeat (first | refine wS ?_ | refine wB ?_ | ((first | refine wR ?_ | refine wD ?_); simp -dsimp) | refine aI ?_)
      refine vcStop.call Tryz.body37 (sortedP_ok c (n :: ns) (casesL c) hcp (casesL_ok c).asc (by simp) (by omega)) (rl [(1000, 503), (0, 601)]) rfl rfl (by simp [BoxLeq]) (CallOk.of (by simp [BoxLeq]) rfl (by first | rfl | (simp [BoxLeq]; done)) (by simp [BoxLeq]) (by simp [BoxLeq])) (fun _ h => h.elim) (fun ⟨_, h⟩ => h.elim) (fun ⟨_, h⟩ => h.elim) (by simp [BoxLeq]) ?_
      simp -dsimp
      repeat (first | refine wS ?_ | refine wB ?_ | ((first | refine wR ?_ | refine wD ?_); simp -dsimp) | refine aI ?_)
      exact WP.ret (hQ _ (Wk.trans (Wk.lessE [20, 29, 503] (S' := mkS 108 [(2, .row 601)] [(601, rP c (casesL c))]) (by simp) (by simp)) (Wk.trans (Wk.freeze (k := 601) (T := 64) (sz := 1) (n := (casesL c).length) (ds := fpL c (casesL c)) (by simp)) (Wk.lessE [] (by simp [filesD]) (by simp)))))
  | cons e0 r0 =>
    have hne : left3 L seen ≠ [] := by rw [hl3]; simp
    cases ns with
    | nil =>
      rw [eS]
      simp -dsimp
      repeat (first | refine wS ?_ | refine wB ?_ | ((first | refine wR ?_ | refine wD ?_); simp -dsimp) | refine aI ?_)
      refine vcStop.nextMore rfl rfl (j := 29) rfl rfl hok hne ?_
      simp -dsimp
      repeat (first | refine wS ?_ | refine wB ?_ | ((first | refine wR ?_ | refine wD ?_); simp -dsimp) | refine aI ?_)
      refine WP.cond (b := true) (by simp) (fun _ => ?_) (fun h => by cases h)
      refine WP.skip ?_
      simp -dsimp
      refine WP.took 20 rfl fun e he => ?_
      have hel : e ∈ L := (List.mem_filter.1 he).1
      have hpu := left3_push hok.2.1 he
      have hed := hLd e hel
      generalize hkn : keyD e.d = kn at hed
      simp -dsimp
      repeat (first | refine wS ?_ | refine wB ?_ | ((first | refine wR ?_ | refine wD ?_); simp -dsimp) | refine aI ?_)
      refine vcStop.entry rfl rfl (j := 29) rfl rfl hok hel ?_
      rw [hed]
      clear hed hLd hL hLn
      simp -dsimp
      repeat (first | refine wS ?_ | refine wB ?_ | ((first | refine wR ?_ | refine wD ?_); simp -dsimp) | refine aI ?_)
      refine loopW.next (eS c g L clock (seen.push e.born) [kn]) (Wk.go [104] 105 503 (by decide) (by simp [eS]) (by simp [eS]) (by simp [eS, fpL])) (left3 L (seen.push e.born)).length (by rw [hm, ← hpu.length_eq]; simp) ⟨_, _, rfl, ?_, rfl⟩
      rw [← hkn]
      exact (hpu.map fun e : Ent3 => keyD e.d).trans hper
    | cons n ns =>
      have hcn : (n :: ns).length ≤ 100 := by have := hper.length_eq; rw [List.length_append] at this; omega
      have hcn' : ns.length + 1 ≤ 100 := hcn
      rw [eS]
      simp -dsimp
      repeat (first | refine wS ?_ | refine wB ?_ | ((first | refine wR ?_ | refine wD ?_); simp -dsimp) | refine aI ?_)
      refine vcStop.nextMore rfl rfl (j := 29) rfl rfl hok hne ?_
      simp -dsimp
      repeat (first | refine wS ?_ | refine wB ?_ | ((first | refine wR ?_ | refine wD ?_); simp -dsimp) | refine aI ?_)
      refine WP.cond (b := true) (by simp) (fun _ => ?_) (fun h => by cases h)
      refine WP.skip ?_
      simp -dsimp
      refine WP.took 20 rfl fun e he => ?_
      have hel : e ∈ L := (List.mem_filter.1 he).1
      have hpu := left3_push hok.2.1 he
      have hed := hLd e hel
      generalize hkn : keyD e.d = kn at hed
      simp -dsimp
      repeat (first | refine wS ?_ | refine wB ?_ | ((first | refine wR ?_ | refine wD ?_); simp -dsimp) | refine aI ?_)
      refine vcStop.entry rfl rfl (j := 29) rfl rfl hok hel ?_
      rw [hed]
      clear hed hLd hL hLn
      simp -dsimp
      repeat (first | refine wS ?_ | refine wB ?_ | ((first | refine wR ?_ | refine wD ?_); simp -dsimp) | refine aI ?_)
      have hren : renL (r1 105 503) (ns.map (AV.d ∘ fpD c)) = ns.map (AV.d ∘ fpD c) := by rw [← List.map_map]; simp [-List.map_map]
      refine loopW.next (eS c g L clock (seen.push e.born) (n :: ns ++ [kn])) (Wk.go [104, 503] 105 503 (by decide) (by simp [eS]) (by simp [eS]) (by simp [eS, fpL, hren])) (left3 L (seen.push e.born)).length (by rw [hm, ← hpu.length_eq]; simp) ⟨_, _, rfl, ?_, rfl⟩
      rw [List.append_assoc, ← hkn]
      exact ((hpu.map fun e : Ent3 => keyD e.d).append_left _).trans hper
set_option maxRecDepth 10000 in
set_option maxHeartbeats 4000000 in
theorem files_ok (l : List F) (hl : l.length ≤ 100) (hv : ∀ f ∈ l, fOk f) : Fn0 Tryz.prog 24 [slF l] (filesD (canF l)) := by
  refine Fun.of_wp (pn := noPn) Tryz.tab Tryz.func24 rfl fun β0 => ?_
  simp only [Tryz.f24]
  repeat (first | refine wS ?_ | refine wB ?_ | ((first | refine wR ?_ | refine wD ?_); simp -dsimp) | refine aI ?_)
  refine WP.loopWk (fun m S => ∃ l1 l2, l = l1 ++ l2 ∧ m = l2.length ∧ S = vS l l1.length (vld l1)) l.length (S0 := vS l 0 []) (Wk.lessE [] (by simp [vS]) (by simp [vS])) ⟨[], l, rfl, rfl, rfl⟩ ?_
  rintro _ _ ⟨l1, l2, hl12, rfl, rfl⟩
  cases l2 with
  | cons p l2 =>
    have hll : l.length = l1.length + (l2.length + 1) := by rw [hl12]; simp
    have e1 : IntKind.i64.wrap ((l1.length : Int) + 1) = (l1.length : Int) + 1 := IntWalk.i64_in _ (by omega)
    have hp := hv p (by rw [hl12]; simp)
    have hil : l1.length < l.length := by omega
    have h1 := fsC_at hil
    have hfat : fat l l1.length = p := by rw [fat, getD_at hil, List.getElem_of_eq hl12]; simp
    rw [hfat] at h1
    have hc := check_ok p hp
    have hn : vld (l1 ++ [p]) = vld l1 ++ if (numF p).2 = true then [p] else [] := by
      rw [vld, List.filter_append]; congr 1
      simp only [List.filter_cons, List.filter_nil]
    have hvl : (vld l1).length ≤ l1.length := List.length_filter_le _ _
    cases hvf : vld l1 with
    | nil =>
      rw [vS]
      simp -dsimp
      repeat (first | refine wS ?_ | refine wB ?_ | ((first | refine wR ?_ | refine wD ?_); simp -dsimp) | refine aI ?_)
      refine WP.cond (b := true) (by simp; omega) (fun _ => ?_) (fun h => by cases h)
      refine WP.skip ?_
      simp -dsimp
      refine WP.seq (WP.block ?_)
      repeat (first | refine wS ?_ | refine wB ?_ | ((first | refine wR ?_ | refine wD ?_); simp -dsimp [h1]) | refine aI ?_)
      refine vcStop.call0 Tryz.body35 hc rfl rfl (by simp [fD]) ?_
      simp -dsimp
      repeat (first | refine wS ?_ | refine wB ?_ | ((first | refine wR ?_ | refine wD ?_); simp -dsimp) | refine aI ?_)
      refine WP.cond (b := (numF p).2) (by cases (numF p).2 <;> simp) (fun hq => ?_) (fun hq => ?_)
      · rw [if_pos hq, hvf, List.nil_append] at hn
        have hS : vS l (l1 ++ [p]).length (vld (l1 ++ [p])) = mkS 108 [(3, .row 505), (15, .d (slF l)), (16, .d (.v (.int .i64 l.length))), (17, .d (.v (.int .i64 ((l1 ++ [p]).length : Nat))))] [(505, rB [p])] := by rw [hn]; rfl
        repeat (first | refine wS ?_ | refine wB ?_ | ((first | refine wR ?_ | refine wD ?_); simp -dsimp) | refine aI ?_)
        refine loopW.next (mkS 108 [(3, .row 505), (15, .d (slF l)), (16, .d (.v (.int .i64 l.length))), (17, .d (.v (.int .i64 ((l1 ++ [p]).length : Nat))))] [(505, rB [p])]) (Wk.go [5, 26] 27 505 (by decide) (by simp) (by simp [e1]) (by simp [fsC])) l2.length (by simp) ⟨l1 ++ [p], l2, by simp [hl12], rfl, hS.symm⟩
      · rw [if_neg (by simp [hq]), List.append_nil, hvf] at hn
        have hS : vS l (l1 ++ [p]).length (vld (l1 ++ [p])) = mkS 108 [(3, .d nilD), (15, .d (slF l)), (16, .d (.v (.int .i64 l.length))), (17, .d (.v (.int .i64 ((l1 ++ [p]).length : Nat))))] [] := by rw [hn]; rfl
        refine WP.skip ?_
        simp -dsimp
        repeat (first | refine wS ?_ | refine wB ?_ | ((first | refine wR ?_ | refine wD ?_); simp -dsimp) | refine aI ?_)
        refine loopW.next (mkS 108 [(3, .d nilD), (15, .d (slF l)), (16, .d (.v (.int .i64 l.length))), (17, .d (.v (.int .i64 ((l1 ++ [p]).length : Nat))))] []) (Wk.lessE [5] (by simp [e1]) (by simp)) l2.length (by simp) ⟨l1 ++ [p], l2, by simp [hl12], rfl, hS.symm⟩
    | cons f r =>
      have hrl : r.length + 1 ≤ l1.length := by rw [hvf] at hvl; simpa using hvl
      rw [vS]
      simp -dsimp
      repeat (first | refine wS ?_ | refine wB ?_ | ((first | refine wR ?_ | refine wD ?_); simp -dsimp) | refine aI ?_)
      refine WP.cond (b := true) (by simp; omega) (fun _ => ?_) (fun h => by cases h)
      refine WP.skip ?_
      simp -dsimp
      refine WP.seq (WP.block ?_)
      repeat (first | refine wS ?_ | refine wB ?_ | ((first | refine wR ?_ | refine wD ?_); simp -dsimp [h1]) | refine aI ?_)
      refine vcStop.call0 Tryz.body35 hc rfl rfl (by simp [fD]) ?_
      simp -dsimp
      repeat (first | refine wS ?_ | refine wB ?_ | ((first | refine wR ?_ | refine wD ?_); simp -dsimp) | refine aI ?_)
      refine WP.cond (b := (numF p).2) (by cases (numF p).2 <;> simp) (fun hq => ?_) (fun hq => ?_)
      · rw [if_pos hq, hvf] at hn
        have hS : vS l (l1 ++ [p]).length (vld (l1 ++ [p])) = mkS 108 [(3, .row 505), (15, .d (slF l)), (16, .d (.v (.int .i64 l.length))), (17, .d (.v (.int .i64 ((l1 ++ [p]).length : Nat))))] [(505, rB (f :: r ++ [p]))] := by rw [hn]; rfl
        repeat (first | refine wS ?_ | refine wB ?_ | ((first | refine wR ?_ | refine wD ?_); simp -dsimp) | refine aI ?_)
        refine loopW.next (mkS 108 [(3, .row 505), (15, .d (slF l)), (16, .d (.v (.int .i64 l.length))), (17, .d (.v (.int .i64 ((l1 ++ [p]).length : Nat))))] [(505, rB (f :: r ++ [p]))]) (Wk.go [5, 26, 505] 27 505 (by decide) (by simp) (by simp [e1]) (by simp [fsC])) l2.length (by simp) ⟨l1 ++ [p], l2, by simp [hl12], rfl, hS.symm⟩
      · rw [if_neg (by simp [hq]), List.append_nil, hvf] at hn
        have hS : vS l (l1 ++ [p]).length (vld (l1 ++ [p])) = mkS 108 [(3, .row 505), (15, .d (slF l)), (16, .d (.v (.int .i64 l.length))), (17, .d (.v (.int .i64 ((l1 ++ [p]).length : Nat))))] [(505, rB (f :: r))] := by rw [hn]; rfl
        refine WP.skip ?_
        simp -dsimp
        repeat (first | refine wS ?_ | refine wB ?_ | ((first | refine wR ?_ | refine wD ?_); simp -dsimp) | refine aI ?_)
        refine loopW.next (mkS 108 [(3, .row 505), (15, .d (slF l)), (16, .d (.v (.int .i64 l.length))), (17, .d (.v (.int .i64 ((l1 ++ [p]).length : Nat))))] [(505, rB (f :: r))]) (Wk.lessE [5] (by simp [e1]) (by simp)) l2.length (by simp) ⟨l1 ++ [p], l2, by simp [hl12], rfl, hS.symm⟩
  | nil =>
    simp only [List.append_nil] at hl12
    subst hl12
    have hvo : ∀ f ∈ vld l, fOk f := fun f hf => hv f (List.mem_filter.1 hf).1
    have hvl : (vld l).length ≤ l.length := List.length_filter_le _ _
    have hcan := canF_ok hv
    have hcl := canF_len hv
    have hw0 : Wk (mkS 108 [(6, .ptr 6 0), (7, getV), (32, .d (slF (canF l))), (33, .d (.v (.int .i64 (canF l).length))), (34, .d (.v (.int .i64 0)))] [(6, .cells 83 [.row 29]), (29, .mp [])]) (fS (canF l) 0 []) := by
      refine Wk.trans (Wk.bunNew 600 (by simp)) (Wk.lessE [] (by simp [fS]) ?_)
      simp [fS]
    cases hvf : vld l
    case' nil =>
      have hV : canF l = [] := by rw [canF, show (l.filter fun f => (numF f).2) = [] from hvf]; exact setF_nil
      rw [vS]
      simp -dsimp
      repeat (first | refine wS ?_ | refine wB ?_ | ((first | refine wR ?_ | refine wD ?_); simp -dsimp) | refine aI ?_)
      refine WP.cond (b := false) (by simp) (fun h => by cases h) (fun _ => ?_)
      refine WP.exit ?_
      simp -dsimp
      repeat (first | refine wS ?_ | refine wB ?_ | ((first | refine wR ?_ | refine wD ?_); simp -dsimp) | refine aI ?_)
      refine vcStop.makeMap 29 rfl (by simp) ?_
      simp -dsimp
      repeat (first | refine wS ?_ | refine wB ?_ | ((first | refine wR ?_ | refine wD ?_); simp -dsimp) | refine aI ?_)
      refine vcStop.call0 Tryz.body28 sorted_nil rfl rfl (by simp) ?_
      simp -dsimp
      repeat (first | refine wS ?_ | refine wB ?_ | ((first | refine wR ?_ | refine wD ?_); simp -dsimp) | refine aI ?_)
      refine WP.weak (Wk.trans (Wk.lessE [] (S' := mkS 108 [(6, .ptr 6 0), (7, getV), (32, .d nilD), (33, .d (.v (.int .i64 0))), (34, .d (.v (.int .i64 0)))] [(6, .cells 83 [.row 29]), (29, .mp [])]) (by simp) (by simp)) (Wk.trans (Wk.nilSlot 32 602 62 57 (by simp) (by simp)) (Wk.trans (Wk.freeze (k := 602) (T := 62) (sz := 57) (n := 0) (ds := []) (by simp)) (Wk.trans (Wk.lessE [] (by simp [hV]) (by simp)) hw0)))) ?_
    case' cons f r =>
      have hset := sorted_ok ((vld l).map kOf) (by rw [List.length_map, hvf]; simp) (by rw [List.length_map]; omega)
      rw [kOf_val hvo, hvf] at hset
      have hV : canF l = setF ((f :: r).map kOf) := by rw [canF, show (l.filter fun f => (numF f).2) = f :: r from hvf]
      rw [← hV] at hset
      rw [vS]
      simp -dsimp
      repeat (first | refine wS ?_ | refine wB ?_ | ((first | refine wR ?_ | refine wD ?_); simp -dsimp) | refine aI ?_)
      refine WP.cond (b := false) (by simp) (fun h => by cases h) (fun _ => ?_)
      refine WP.exit ?_
      simp -dsimp
      repeat (first | refine wS ?_ | refine wB ?_ | ((first | refine wR ?_ | refine wD ?_); simp -dsimp) | refine aI ?_)
      refine vcStop.makeMap 29 rfl (by simp) ?_
      simp -dsimp
      repeat (first | refine wS ?_ | refine wB ?_ | ((first | refine wR ?_ | refine wD ?_); simp -dsimp) | refine aI ?_)
      refine vcStop.call Tryz.body28 (hset) (rl [(1000, 505), (0, 601)]) rfl rfl (by simp [BoxLeq]) (CallOk.of (by simp [BoxLeq]) rfl (by first | rfl | (simp [BoxLeq]; done)) (by simp [BoxLeq]) (by simp [BoxLeq])) (fun _ h => h.elim) (fun ⟨_, h⟩ => h.elim) (fun ⟨_, h⟩ => h.elim) (by simp [BoxLeq]) ?_
      simp -dsimp
      repeat (first | refine wS ?_ | refine wB ?_ | ((first | refine wR ?_ | refine wD ?_); simp -dsimp) | refine aI ?_)
      refine WP.weak (Wk.trans (Wk.lessE [505] (S' := mkS 108 [(6, .ptr 6 0), (7, getV), (32, .row 601), (33, .d (.v (.int .i64 (canF l).length))), (34, .d (.v (.int .i64 0)))] [(6, .cells 83 [.row 29]), (29, .mp []), (601, rB (canF l))]) (by simp) (by simp)) (Wk.trans (Wk.freeze (k := 601) (T := 62) (sz := 57) (n := (canF l).length) (ds := fsC (canF l)) (by simp)) (Wk.trans (Wk.lessE [] (by simp) (by simp)) hw0))) ?_
    all_goals (
      generalize canF l = c at hcan hcl
      have hc100 : c.length ≤ 100 := by omega
      have hcv : ∀ f ∈ c, vOk f := fun f hf => ⟨hv f ((hcan.mem f).1 hf).1, ((hcan.mem f).1 hf).2⟩
      refine WP.loopWk (fun m S => ∃ i xs, i + m = c.length ∧ xs.map (·.n) = numsL (c.take i) [] ∧ S = fS c i xs) c.length (Wk.refl _) ⟨0, [], by omega, rfl, rfl⟩ ?_
      rintro m _ ⟨i, xs, him, hxs, rfl⟩
      rw [fS]
      simp -dsimp
      repeat (first | refine wS ?_ | refine wB ?_ | ((first | refine wR ?_ | refine wD ?_); simp -dsimp) | refine aI ?_)
      by_cases hi : i < c.length
      · have h1 := fsC_at hi
        have hfv := hcv _ (fat_in hi)
        have htk := take_fat hi
        have e1 : IntKind.i64.wrap ((i : Int) + 1) = ((i + 1 : Nat) : Int) := by rw [IntWalk.i64_in _ (by omega)]; omega
        generalize fat c i = f at h1 hfv htk
        have hnd : (xs.map (·.n)).Nodup := by rw [hxs]; exact numsL_nodup _ _ List.nodup_nil
        have hxI : ∀ x ∈ xs, isI x.n := fun x hx => by
          have : x.n ∈ numsL (c.take i) [] := by rw [← hxs]; exact List.mem_map.2 ⟨x, hx, rfl⟩
          rw [numsL_in] at this
          rcases this with h | ⟨g, hg, hgn⟩
          · cases h
          · exact case_isI (hcv g (List.mem_of_mem_take hg)).1 hgn
        have hno : ∀ n, n ∉ xs.map (·.n) → ∀ g ∈ c.take i, caseF g ≠ some n := fun n h g hg e => h (by rw [hxs, numsL_in]; exact .inr ⟨g, hg, e⟩)
        refine WP.cond (b := true) (by simp; omega) (fun _ => ?_) (fun h => by cases h)
        refine WP.skip ?_
        simp -dsimp
        refine WP.seq (WP.block ?_)
        repeat (first | refine wS ?_ | refine wB ?_ | ((first | refine wR ?_ | refine wD ?_); simp -dsimp [h1]) | refine aI ?_)
        refine WP.cond (b := decide (f 3 = 10)) (by simp) (fun hk => ?_) (fun hk => ?_)
        · have hk := of_decide_eq_true hk
          have hi1 := (v_rul hfv hk).2.1
          refine WP.weak (Wk.lessE [] (S' := bS c i f xs) (by simp [bS]) (by simp [bS])) ?_
          rcases hi1 with hi1 | hi1
          · refine rul1_ok ⟨hi, hc100, hfv, htk, hxs, hxI, hno⟩ hk hi1 fun xs' S' hns hw => ?_
            refine WP.weak hw ?_
            rw [dS]
            simp -dsimp
            repeat (first | refine wS ?_ | refine wB ?_ | ((first | refine wR ?_ | refine wD ?_); simp -dsimp) | refine aI ?_)
            refine loopW.next (fS c (i + 1) xs') (Wk.lessE [] (by simp [fS, dS, e1]) (by simp [fS, dS])) (m - 1) (by omega) ⟨i + 1, _, by omega, hns, rfl⟩
          · refine rul2_ok ⟨hi, hc100, hfv, htk, hxs, hxI, hno⟩ hk hi1 fun xs' S' hns hw => ?_
            refine WP.weak hw ?_
            rw [dS]
            simp -dsimp
            repeat (first | refine wS ?_ | refine wB ?_ | ((first | refine wR ?_ | refine wD ?_); simp -dsimp) | refine aI ?_)
            refine loopW.next (fS c (i + 1) xs') (Wk.lessE [] (by simp [fS, dS, e1]) (by simp [fS, dS])) (m - 1) (by omega) ⟨i + 1, _, by omega, hns, rfl⟩
        · have hk := of_decide_eq_false hk
          repeat (first | refine wS ?_ | refine wB ?_ | ((first | refine wR ?_ | refine wD ?_); simp -dsimp) | refine aI ?_)
          refine WP.cond (b := decide (f 3 = 8)) (by simp) (fun hq => ?_) (fun hq => ?_)
          · have hq := of_decide_eq_true hq
            refine WP.weak (Wk.lessE [] (S' := bS c i f xs) (by simp [bS]) (by simp [bS])) ?_
            refine rep_ok ⟨hi, hc100, hfv, htk, hxs, hxI, hno⟩ hk hq fun xs' S' hns hw => ?_
            refine WP.weak hw ?_
            rw [dS]
            simp -dsimp
            repeat (first | refine wS ?_ | refine wB ?_ | ((first | refine wR ?_ | refine wD ?_); simp -dsimp) | refine aI ?_)
            refine loopW.next (fS c (i + 1) xs') (Wk.lessE [] (by simp [fS, dS, e1]) (by simp [fS, dS])) (m - 1) (by omega) ⟨i + 1, _, by omega, hns, rfl⟩
          · have hq := of_decide_eq_false hq
            repeat (first | refine wS ?_ | refine wB ?_ | ((first | refine wR ?_ | refine wD ?_); simp -dsimp) | refine aI ?_)
            refine WP.cond (b := decide (f 3 = 11)) (by simp) (fun hz => ?_) (fun hz => ?_)
            · have hz := of_decide_eq_true hz
              refine WP.weak (Wk.lessE [] (S' := bS c i f xs) (by simp [bS]) (by simp [bS])) ?_
              refine app_ok ⟨hi, hc100, hfv, htk, hxs, hxI, hno⟩ hk hq hz fun xs' S' hns hw => ?_
              refine WP.weak hw ?_
              rw [dS]
              simp -dsimp
              repeat (first | refine wS ?_ | refine wB ?_ | ((first | refine wR ?_ | refine wD ?_); simp -dsimp) | refine aI ?_)
              refine loopW.next (fS c (i + 1) xs') (Wk.lessE [] (by simp [fS, dS, e1]) (by simp [fS, dS])) (m - 1) (by omega) ⟨i + 1, _, by omega, hns, rfl⟩
            · have hz := of_decide_eq_false hz
              have hcase : caseF f = none := by rw [caseF, if_neg hk, if_neg hq, if_neg (fun h => hz h.1)]
              have hall : xs.flatMap (mkE (c.take (i + 1))) = xs.flatMap (mkE (c.take i)) := by rw [htk]; exact flat_ne fun y _ => by rw [hcase]; simp
              have hns : xs.map (·.n) = numsL (c.take (i + 1)) [] := by rw [htk, numsL_snoc, hcase, hxs]; rfl
              refine WP.skip ?_
              simp -dsimp
              repeat (first | refine wS ?_ | refine wB ?_ | ((first | refine wR ?_ | refine wD ?_); simp -dsimp) | refine aI ?_)
              refine loopW.next (fS c (i + 1) xs) (Wk.lessE [9] (by simp [fS, e1]) (by simp [fS, hall])) (m - 1) (by omega) ⟨i + 1, _, by omega, hns, rfl⟩
      · have hic : i = c.length := by omega
        subst hic
        rw [List.take_length] at hxs
        refine WP.cond (b := false) (by simp) (fun h => by cases h) (fun _ => ?_)
        refine WP.exit ?_
        simp -dsimp
        refine WP.weak (Wk.lessE [] (S' := mkS 108 [(6, .ptr 6 0)] [(600, bunX c xs), (6, .cells 83 [.row 29]), (29, .mp (xs.map kvX))]) (by simp) (by simp)) ?_
        refine tail_ok hc100 hxs fun S' hw => finQ.retWE hw ?_
        simp -dsimp)
end Go.Proofs.YtjjaabidbeoomaaGreatDoor
