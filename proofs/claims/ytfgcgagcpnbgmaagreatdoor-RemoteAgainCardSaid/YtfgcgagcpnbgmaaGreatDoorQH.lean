/-
  Joined texts.
-/
import Derived.Test.YtfgcgagcpnbgmaaGreatDoorQG
set_option linter.unusedVariables false
set_option linter.unusedSimpArgs false
set_option linter.unusedSectionVars false
namespace Go.Proofs.YtfgcgagcpnbgmaaGreatDoor
open Go.Xe Go.RowKit
def hasE (A : List Ent) (i : Nat) : Bool := A.any fun e => decide (e.1 = some i)
theorem wrL_at (f : Nat → Int) : ∀ (A : List Ent) (g : Nat → Int) (i : Nat), wrL f g A i = if hasE A i = true then f i else g i
 | [], g, i => by simp [wrL, hasE]
 | (some o, lo, hi) :: A, g, i => by
  rw [wrL, wrL_at f A]
  have : hasE ((some o, lo, hi) :: A) i = (decide (o = i) || hasE A i) := by simp [hasE]
  rw [this]
  by_cases h1 : hasE A i = true
  ·simp [h1]
  ·simp only [h1, Bool.or_false, decide_eq_true_eq]
   simp only [wrE, fup]
   by_cases h2 : o = i
   ·subst h2; simp
   ·rw [if_neg h2, if_neg (by simp), if_neg (Ne.symm h2)]
 | (none, lo, hi) :: A, g, i => by
  rw [wrL, wrL_at f A]
  have : hasE ((none, lo, hi) :: A) i = hasE A i := by simp [hasE]
  rw [this]
  rfl
end Go.Proofs.YtfgcgagcpnbgmaaGreatDoor
namespace Go.Proofs.YtfgcgagcpnbgmaaGreatDoor
open Go.Xe Go.RowKit
@[simp] def vB (k n : Int) (s : ByteArray) (l : List V) : Box := .cells 166 [.d (.v (.int .i64 k)), .d (.v (.int .i64 n)), .d (.v (.string s)), .d (slV l)]
theorem next_e (k n : Int) (s : ByteArray) (l : List V) : Fun Tryz.prog 186 [.ptr 1000 0, .ptr 1001 0] [(1000, sB l.length), (1001, vB k n s l)] (.d (.v (.int .i64 0))) [(1000, sB l.length), (1001, vB k n s l)] fun _ => False := by
 refine Fun.of_wp (pn := noPn) Tryz.tab Tryz.func186 rfl fun β0 => ?_
 simp only [Tryz.f186]
 repeat(first|apply wG|(apply wR;simp -dsimp)|refine aI ?_)
 refine cT (by simp) ?_
 repeat(first|apply wG|(apply wR;simp -dsimp)|refine aI ?_)
 refine WP.ret (finQ.retE ?_)
 simp -dsimp
def V.num : V → Int
 | .mk _ n _ _ => n
theorem next_c (k n : Int) (s : ByteArray) (l1 : List V) (v : V) (l2 : List V) (hl : l1.length ≤ 1000000000000) :
  Fun Tryz.prog 186 [.ptr 1000 0, .ptr 1001 0] [(1000, sB l1.length), (1001, vB k n s (l1 ++ v :: l2))] (.d (.v (.int .i64 v.num))) [(1000, sB (l1.length + 1 : Nat)), (1001, vB k n s (l1 ++ v :: l2))] fun _ => False := by
 obtain ⟨l, hl'⟩ : ∃ l, l1 ++ v :: l2 = l := ⟨_, rfl⟩
 have hv := V.cells_at l1 v l2
 rw [hl'] at hv ⊢
 have hlen : l.length = l1.length + (l2.length + 1) := by rw [← hl']; simp
 obtain ⟨k', n', s', l'⟩ := v
 rw [V.cells] at hv
 have e1 : IntKind.i64.wrap ((l1.length : Int) + 1) = (l1.length : Int) + 1 := IntWalk.i64_in _ (by omega)
 have e2 : IntKind.i64.wrap ((l1.length : Int) + 1 - 1) = (l1.length : Int) := by rw [IntWalk.i64_in _ (by omega)]; omega
 have e3 : IntKind.i64.wrap (l1.length : Int) = (l1.length : Int) := IntWalk.i64_in _ (by omega)
 refine Fun.of_wp (pn := noPn) Tryz.tab Tryz.func186 rfl fun β0 => ?_
 simp only [Tryz.f186]
 repeat(first|apply wG|(apply wR;simp -dsimp)|refine aI ?_)
 refine cF (by simp; omega) ?_
 refine WP.skip ?_
 simp -dsimp
 repeat(first|apply wG|(apply wR;simp -dsimp [e1, e2, e3, hv])|refine aI ?_)
 refine WP.ret (finQ.retE ?_)
 simp -dsimp [V.num]
def nthL (l : List V) (i : Nat) : Int := match l[i]? with
 | some v => v.num
 | none => 0
theorem next_ok (k n : Int) (s : ByteArray) (l : List V) (j : Nat) (hl : l.length ≤ 1000000000000) :
  Fun Tryz.prog 186 [.ptr 1000 0, .ptr 1001 0] [(1000, sB (min j l.length : Nat)), (1001, vB k n s l)] (.d (.v (.int .i64 (nthL l j)))) [(1000, sB (min (j + 1) l.length : Nat)), (1001, vB k n s l)] fun _ => False := by
 by_cases h : j < l.length
 ·have e : l = l.take j ++ l[j] :: l.drop (j + 1) := by rw [List.getElem_cons_drop, List.take_append_drop]
  have hj : (l.take j).length = j := by rw [List.length_take]; omega
  have hc := next_c k n s (l.take j) l[j] (l.drop (j + 1)) (by omega)
  rw [← e, hj] at hc
  have hn : nthL l j = l[j].num := by rw [nthL, List.getElem?_eq_getElem h]
  rw [show min j l.length = j by omega, show min (j + 1) l.length = j + 1 by omega, hn]
  exact hc
 ·have hn : nthL l j = 0 := by rw [nthL, List.getElem?_eq_none (by omega)]
  rw [show min j l.length = l.length by omega, show min (j + 1) l.length = l.length by omega, hn]
  exact next_e k n s l
def nthI (l : List Int) (i : Nat) : Int := (l[i]?).getD 0
theorem nthL_eq (l : List V) (i : Nat) : nthL l i = nthI (l.map V.num) i := by
 rw [nthL, nthI, List.getElem?_map]
 cases l[i]? <;> rfl
def rdE (l : List Int) : List Ent → Nat → (Nat → Int) × Int → (Nat → Int) × Int
 | [], _, p => p
 | (some o, _, _) :: r, j, p => rdE l r (j + 1) (fup p.1 o (nthI l j), p.2)
 | (none, _, _) :: r, j, p => rdE l r (j + 1) (p.1, nthI l j)
theorem rdE_append (l : List Int) : ∀ (A B : List Ent) (j : Nat) (p : (Nat → Int) × Int), rdE l (A ++ B) j p = rdE l B (j + A.length) (rdE l A j p)
 | [], B, j, p => rfl
 | (some o, lo, hi) :: A, B, j, p => by rw [List.cons_append, rdE, rdE_append l A B, rdE]; congr 1; simp; omega
 | (none, lo, hi) :: A, B, j, p => by rw [List.cons_append, rdE, rdE_append l A B, rdE]; congr 1; simp; omega
def headG (l : List Int) : Nat → Int := (rdE l headE 0 (f0, 0)).1
def candE (l : List Int) : List Ent := (ents (headG l 3) 0).getD []
def candG (l : List Int) : Nat → Int := fup (rdE l (candE l) 4 (headG l, 0)).1 54 (if (rdE l (candE l) 4 (headG l, 0)).2 = 1 then 1 else 0)
theorem rdE_fst (l : List Int) : ∀ (A B : List Ent), A.map (·.1) = B.map (·.1) → ∀ (j : Nat) (p : (Nat → Int) × Int), rdE l A j p = rdE l B j p
 | [], [], _, _, _ => rfl
 | [], _ :: _, h, _, _ => by simp at h
 | _ :: _, [], h, _, _ => by simp at h
 | (some o, a, b) :: A, (o', a', b') :: B, h, j, p => by
  simp only [List.map_cons, List.cons.injEq] at h
  obtain ⟨rfl, h⟩ := h
  rw [rdE, rdE, rdE_fst l A B h]
 | (none, a, b) :: A, (o', a', b') :: B, h, j, p => by
  simp only [List.map_cons, List.cons.injEq] at h
  obtain ⟨rfl, h⟩ := h
  rw [rdE, rdE, rdE_fst l A B h]
theorem entsR_fst (r : Int) : (entsR r).map (·.1) = [some 47, some 48, some 49, some 50, some 51, some 52] := by
 unfold entsR
 by_cases h1 : r = 1 ∨ r = 2 <;> by_cases h3 : r = 3 <;> by_cases h4 : r = 4 <;> simp [h1, h3, h4]
theorem ents_fst {k r : Int} {E : List Ent} (h : ents k r = some E) : ∃ E0, ents k 0 = some E0 ∧ E0.map (·.1) = E.map (·.1) := by
 by_cases hk : k = 10
 ·subst hk
  simp [ents] at h
  subst h
  exact ⟨entsR 0, by simp [ents], by rw [entsR_fst, entsR_fst]⟩
 ·refine ⟨E, ?_, rfl⟩
  unfold ents at h ⊢
  rw [if_neg hk] at h ⊢
  exact h
theorem nthI_at (P : List Int) (x : Int) (R : List Int) : nthI (P ++ x :: R) P.length = x := by
 rw [nthI, List.getElem?_append_right (Nat.le_refl _), Nat.sub_self]; rfl
theorem rdE_num (f : Nat → Int) (s : Int) (R : List Int) : ∀ (E : List Ent) (P : List Int) (p : (Nat → Int) × Int), rdE (P ++ E.map (valE f s) ++ R) E P.length p = (wrL f p.1 E, flL s p.2 E)
 | [], P, p => rfl
 | (some o, a, b) :: E, P, p => by
  have ih := rdE_num f s R E (P ++ [valE f s (some o, a, b)]) (fup p.1 o (f o), p.2)
  have hn : nthI (P ++ (valE f s (some o, a, b) :: E.map (valE f s)) ++ R) P.length = f o := by rw [List.append_assoc, List.cons_append, nthI_at]; rfl
  rw [List.map_cons, rdE, hn, wrL, flL]
  simp only [List.length_append, List.length_cons, List.length_nil, List.append_assoc, List.cons_append, List.nil_append] at ih ⊢
  exact ih
 | (none, a, b) :: E, P, p => by
  have ih := rdE_num f s R E (P ++ [valE f s (none, a, b)]) (p.1, s)
  have hn : nthI (P ++ (valE f s (none, a, b) :: E.map (valE f s)) ++ R) P.length = s := by rw [List.append_assoc, List.cons_append, nthI_at]; rfl
  rw [List.map_cons, rdE, hn, wrL, flL]
  simp only [List.length_append, List.length_cons, List.length_nil, List.append_assoc, List.cons_append, List.nil_append] at ih ⊢
  exact ih
theorem cand_num {f : Nat → Int} (h : (numF f).2 = true) (hf : fOk f) : candG (numF f).1 = f := by
 unfold numF at h ⊢
 cases hE : ents (f 3) (f 49) with
 | none => rw [hE] at h; simp at h
 | some E =>
  rw [hE] at h
  simp only at h ⊢
  split at h
  case isFalse => simp at h
  case isTrue hc =>
   rw [if_pos hc]
   simp only at h ⊢
   have hA : (headE ++ E).all entOk = true := by rw [List.all_append, head_entOk, ents_entOk hE]; rfl
   have hr := rest1_ok hf hA (flL (susp f) 0 (headE ++ E))
   have he := (eqF_iff hr hf).1 h
   have h1 := rdE_num f (susp f) (E.map (valE f (susp f))) headE [] (f0, 0)
   have h2 := rdE_num f (susp f) [] E (headE.map (valE f (susp f))) (wrL f f0 headE, 0)
   simp only [List.nil_append, List.length_nil, List.append_nil, ← List.map_append, List.length_map, show headE.length = 4 from rfl] at h1 h2
   have hg : headG ((headE ++ E).map (valE f (susp f))) = wrL f f0 headE := by rw [headG, h1]
   obtain ⟨E0, hE0, hfst⟩ := ents_fst hE
   have h3 : headG ((headE ++ E).map (valE f (susp f))) 3 = f 3 := by rw [hg]; simp [headE, wrL, wrE, fup]
   have hcE : candE ((headE ++ E).map (valE f (susp f))) = E0 := by rw [candE, h3, hE0]; rfl
   have h4 := rdE_fst ((headE ++ E).map (valE f (susp f))) E0 E hfst 4 (wrL f f0 headE, 0)
   rw [h2] at h4
   have hfl : flL (susp f) 0 E = flL (susp f) 0 (headE ++ E) := by rw [flL_append]; rfl
   have hcand : candG ((headE ++ E).map (valE f (susp f))) = fup (wrL f f0 (headE ++ E)) 54 (if flL (susp f) 0 (headE ++ E) = 1 then 1 else 0) := by
    rw [candG, hcE, hg, h4, wrL_append, hfl]
   rw [hcand]
   funext i
   have hi := congrFun he i
   by_cases h54 : i = 54
   ·subst h54
    rw [← hi]
    simp [rest1, fup]
   ·have e1 : fup (wrL f f0 (headE ++ E)) 54 (if flL (susp f) 0 (headE ++ E) = 1 then 1 else 0) i = wrL f f0 (headE ++ E) i := if_neg h54
    rw [e1, wrL_at]
    split
    ·rfl
    ·rename_i hno
     rw [← hi]
     rw [rest1, fup, if_neg h54]
     have h3' : i ≠ 3 := by rintro rfl; exact hno (by simp [hasE, headE])
     split
     ·rename_i hk
      have h49 : i ≠ 49 := by
       rintro rfl
       apply hno
       rw [hk] at hE
       simp [ents] at hE
       subst hE
       simp [hasE, entsR]
      rw [wrL_at, if_neg hno]
      simp [rest0, fup, f0, h3', h49]
     ·rw [fup]
      split
      ·rfl
      ·rename_i h49
       rw [wrL_at, if_neg hno]
       simp [rest0, fup, f0, h3', h49]
def V.items : V → List V
 | .mk _ _ _ l => l
def numsB (bs : List UInt8) : List Int := (pDec bs).1.items.map V.num
def decL (bs : List UInt8) (l : List Int) : (Nat → Int) × Int := if encR (candG l) = (bs, 0) then (candG l, 0) else (f0, 120)
def decF (bs : List UInt8) : (Nat → Int) × Int := if (pDec bs).2 = 0 then decL bs (numsB bs) else (f0, (pDec bs).2)
def decFD (bs : List UInt8) : D := .tup [fD (decF bs).1, .v (.int .i64 (decF bs).2)]
theorem pDec_facts {bs : List UInt8} (h : bs.length ≤ 1000000000000) : ((pDec bs).2 = 0 ∧ (pDec bs).1.rng = true ∧ (pDec bs).1.enc = bs ∧ (pDec bs).1.ok = true ∧ (pDec bs).1.dep ≤ 16) ∨ pDec bs = (.mk 0 0 ⟨#[]⟩ [], 20) := by
 cases hv : pVal 16 bs with
 | none => right; rw [pDec, hv]
 | some x =>
  obtain ⟨v, r⟩ := x
  cases r with
  | cons c r => right; rw [pDec, hv]
  | nil =>
   obtain ⟨w1, w2, w3, w4⟩ := V.wrote 16 bs v [] h hv
   left
   rw [pDec, hv]
   exact ⟨rfl, w4, by rw [w1, List.append_nil], w2, w3⟩
theorem rngL_num : ∀ {l : List V}, V.rngL l = true → ∀ x ∈ l.map V.num, isI x
 | [], _, x, hx => by simp at hx
 | .mk k n s l' :: l, h, x, hx => by
  simp only [V.rngL, Bool.and_eq_true] at h
  rw [List.map_cons, List.mem_cons] at hx
  rcases hx with rfl | hx
  ·exact (V.rng_n h.1).1
  ·exact rngL_num h.2 x hx
theorem nthI_in {l : List Int} (h : ∀ x ∈ l, isI x) (i : Nat) : isI (nthI l i) := by
 rw [nthI]
 cases hi : l[i]? with
 | none => exact isI0
 | some x => exact h x (List.mem_of_getElem? hi)
theorem rdE_in {l : List Int} (h : ∀ x ∈ l, isI x) : ∀ (A : List Ent) (j : Nat) (p : (Nat → Int) × Int), (∀ i, isI (p.1 i)) → isI p.2 → (∀ i, isI ((rdE l A j p).1 i)) ∧ isI (rdE l A j p).2
 | [], _, _, h1, h2 => ⟨h1, h2⟩
 | (some o, _, _) :: A, j, p, h1, h2 => rdE_in h A (j + 1) _ (fup_in h1 (nthI_in h j)) h2
 | (none, _, _) :: A, j, p, h1, h2 => rdE_in h A (j + 1) _ h1 (nthI_in h j)
theorem rdE_out {l : List Int} : ∀ (A : List Ent) (j : Nat) (p : (Nat → Int) × Int), A.all entOk = true → (∀ i, 57 ≤ i → p.1 i = 0) → ∀ i, 57 ≤ i → (rdE l A j p).1 i = 0
 | [], _, _, _, h1 => h1
 | (some o, lo, hi) :: A, j, p, hA, h1 => by
  rw [List.all_cons, Bool.and_eq_true] at hA
  refine rdE_out A (j + 1) _ hA.2 fun i hi => ?_
  have : o < 57 ∧ o ≠ 54 := by simpa [entOk] using hA.1
  simp only [fup]
  rw [if_neg (by omega)]
  exact h1 i hi
 | (none, lo, hi) :: A, j, p, hA, h1 => by
  rw [List.all_cons, Bool.and_eq_true] at hA
  exact rdE_out A (j + 1) _ hA.2 h1
theorem candE_ok (l : List Int) : (candE l).all entOk = true := by
 rw [candE]
 cases h : ents (headG l 3) 0 with
 | none => rfl
 | some E => exact ents_entOk h
theorem candG_ok {l : List Int} (h : ∀ x ∈ l, isI x) : fOk (candG l) := by
 have h1 := rdE_in h headE 0 (f0, 0) (fun _ => isI0) isI0
 have h2 := rdE_in h (candE l) 4 (headG l, 0) h1.1 isI0
 refine ⟨fup_in h2.1 (by split <;> simp [isI]), ?_, fun i hi => ?_⟩
 ·unfold candG fup; simp only [if_true]; split <;> simp
 ·rw [candG, fup, if_neg (by omega)]
  exact rdE_out (candE l) 4 _ (candE_ok l) (rdE_out headE 0 _ head_entOk (fun _ _ => rfl)) i hi
theorem headE_some {e : Ent} (h : e ∈ headE) : ∃ o lo hi, e = (some o, lo, hi) ∧ o < 57 ∧ o ≠ 54 := by
 simp only [headE, List.mem_cons, List.not_mem_nil, or_false] at h
 rcases h with rfl | rfl | rfl | rfl <;> exact ⟨_, _, _, rfl, by decide, by decide⟩
def sD1 (bs : List UInt8) (k n : Int) (s : ByteArray) (l : List V) (A1 : List Ent) : St :=
 mkS 74 [(0, .d (slB bs)), (2, .ptr 2 0), (3, .d (.v (.int .i64 0))), (4, .ptr 4 0), (5, .ptr 5 0), (6, .fn (.func 186) [] [.ptr 5 0, .ptr 4 0]), (26, .row 26), (27, .d (.v (.int .i64 4))), (28, .d (.v (.int .i64 A1.length)))]
  [(2, fB (rdE (l.map V.num) A1 0 (f0, 0)).1), (4, vB k n s l), (5, sB (min A1.length l.length : Nat)), (26, .row 238 3 4 (entA 2 2 headE))]
def sD2 (bs : List UInt8) (k n : Int) (s : ByteArray) (l : List V) (E A1 : List Ent) : St :=
 mkS 74 [(0, .d (slB bs)), (2, .ptr 2 0), (3, .d (.v (.int .i64 0))), (4, .ptr 4 0), (5, .ptr 5 0), (6, .fn (.func 186) [] [.ptr 5 0, .ptr 4 0]), (9, .ptr 9 0), (43, .row 701), (44, .d (.v (.int .i64 E.length))), (45, .d (.v (.int .i64 A1.length)))]
  [(2, fB (rdE (l.map V.num) A1 4 (headG (l.map V.num), 0)).1), (4, vB k n s l), (5, sB (min (4 + A1.length) l.length : Nat)), (9, sB (rdE (l.map V.num) A1 4 (headG (l.map V.num), 0)).2), (701, .row 238 3 E.length (entA 2 9 E))]
theorem V.items_len {v : V} (h : v.ok = true) : v.items.length ≤ v.enc.length := by
 obtain ⟨k, n, s, l⟩ := v
 rw [V.enc]
 simp only [V.items]
 simp [V.ok] at h
 have := V.encL_len l
 by_cases h1 : k = 1
 ·simp [h1] at h; simp [h.2]
 ·by_cases h2 : k = 2
  ·simp [h2] at h; simp [h.2]
  ·simp [h1, h2]; omega
theorem rdE_snoc (l : List Int) (A : List Ent) (o : Nat) (lo hi : Int) (j : Nat) (p : (Nat → Int) × Int) : rdE l (A ++ [(some o, lo, hi)]) j p = (fup (rdE l A j p).1 o (nthI l (j + A.length)), (rdE l A j p).2) := by rw [rdE_append]; rfl
theorem rdE_snocN (l : List Int) (A : List Ent) (lo hi : Int) (j : Nat) (p : (Nat → Int) × Int) : rdE l (A ++ [(none, lo, hi)]) j p = ((rdE l A j p).1, nthI l (j + A.length)) := by rw [rdE_append]; rfl
theorem open_W (f : Nat → Int) (s : Int) {E : List Ent} (hE : ents (f 3) (f 49) = some E ∧ clos (f 3) = none ∨ ents (f 3) (f 49) = none ∧ E = []) :
  ∃ fv : Value, fv.oneCell' = true ∧ Fun Tryz.prog 161 [.ptr 1000 0, .ptr 1001 0] [(1000, fB f), (1001, sB s)] (.tup [.agg [.row 0, .d (.v fv)], .d .any]) [(1000, fB f), (1001, sB s), (0, .row 238 3 E.length (entA 1000 1001 E))] fun _ => False := by
 rcases hE with ⟨hE, hc⟩ | ⟨hE, rfl⟩
 ·exact ⟨_, rfl, (open_P f s hE hc).res (Leq.tup ⟨Leq.refl _, Leq.any _, trivial⟩) (by simp [subB])⟩
 ·refine ⟨.nilFunc, rfl, fun w I β vs hm hd => ?_⟩
  refine Calls.mono (open_no f s hE w I β vs hm hd) fun e w' he => ?_
  cases e with
  | returned v =>
   obtain ⟨I', β', h1, h2, h3⟩ := he
   refine ⟨I', upd β' 0 (.slice none 0 0), (h1.addNil (k := 0) rfl 238 3).sub (fun k b h => h), ?_, fun k hk => by rw [upd_other _ _ (by omega)]; exact h3 k hk⟩
   obtain ⟨vs1, rfl, v1, vs2, rfl, ⟨us, rfl, u1, us2, rfl, h4, u3, us3, rfl, h5, h6⟩, v3, vs4, rfl, h7, h8⟩ := h2
   refine ⟨_, rfl, _, _, rfl, ⟨_, rfl, _, _, rfl, ?_, _, _, rfl, h5, h6⟩, _, _, rfl, trivial, h8⟩
   rw [DenA_v] at h4
   subst h4
   exact ⟨by rw [upd_same], .inl ⟨_, _, _, rfl⟩⟩
  | panicked ch => exact he
  | outgrown => exact he
set_option maxRecDepth 10000 in
set_option maxHeartbeats 4000000 in
theorem factsDecode_ok (bs : List UInt8) (hbs : bs.length ≤ 1000000000) : Fn0 Tryz.prog 118 [slB bs] (decFD bs) := by
 have h18 := f18_ok bs (by omega)
 rw [decD] at h18
 have hpf := pDec_facts (bs := bs) (by omega)
 unfold decFD decF numsB
 generalize pDec bs = R at *
 obtain ⟨⟨k, n, s, l⟩, e⟩ := R
 rcases hpf with ⟨h0, hrng, henc, hok, _⟩ | hbad
 ·simp only at h0 hrng henc hok
  subst h0
  have hL := (V.rng_n hrng).2
  have hin := rngL_num hL
  have hlen := V.items_len hok
  rw [henc] at hlen
  simp only [V.items] at hlen
  have hg := candG_ok hin
  have h17 := encode_ok _ hg
  rw [encD] at h17
  simp only [if_true, V.items]
  refine Fun.of_wp (pn := noPn) Tryz.tab Tryz.func118 rfl fun β0 => ?_
  simp only [Tryz.f118]
  repeat(first|apply wG|(apply wR;simp -dsimp [zero47])|refine aI ?_)
  refine vcStop.call0 Tryz.body185 h18 rfl rfl (by simp) ?_
  simp -dsimp [V.d, V.cells]
  repeat(first|apply wG|(apply wR;simp -dsimp)|refine aI ?_)
  refine cF (by simp) ?_
  refine WP.skip ?_
  simp -dsimp
  repeat(first|apply wG|(apply wR;simp -dsimp)|refine aI ?_)
  refine vcStop.call Tryz.body163 (head_ok f0) (rl [(1000, 2), (0, 26)]) rfl rfl (by simp [BoxLeq]) (CallOk.of (by simp [BoxLeq]) rfl (by first | rfl | (simp [BoxLeq]; done)) (by simp [BoxLeq]) (by simp [BoxLeq])) (fun _ h => h.elim) (fun ⟨_, h⟩ => h.elim) (fun ⟨_, h⟩ => h.elim) (by simp [BoxLeq]) ?_
  simp -dsimp
  repeat(first|apply wG|(apply wR;simp -dsimp)|refine aI ?_)
  refine WP.loopWk (fun m S => ∃ A1 A2, headE = A1 ++ A2 ∧ m = A2.length ∧ S = sD1 bs k n s l A1) 4 (S0 := sD1 bs k n s l [])
   (Wk.lessE [] (by simp [sD1]) (by simp [sD1, rdE])) ⟨[], headE, rfl, rfl, rfl⟩ ?_
  rintro _ _ ⟨A1, A2, hA12, rfl, rfl⟩
  have hll : 4 = A1.length + A2.length := by rw [← List.length_append, ← hA12]; rfl
  simp -dsimp [sD1]
  repeat(first|apply wG|(apply wR;simp -dsimp)|refine aI ?_)
  cases A2 with
  | cons e A2 =>
   have hl1 : A1.length < 4 := by simp at hll; omega
   have e1 : IntKind.i64.wrap ((A1.length : Int) + 1) = (A1.length : Int) + 1 := IntWalk.i64_in _ (by omega)
   obtain ⟨o, lo, hi, rfl, ho, ho'⟩ := headE_some (e := e) (by rw [hA12]; simp)
   have h1 := entA_at 2 2 A1 (some o, lo, hi) A2
   rw [← hA12] at h1
   simp only [locA] at h1
   refine cT (by simp; omega) ?_
   refine WP.skip ?_
   simp -dsimp
   refine WP.seq (WP.block ?_)
   repeat(first|apply wG|(apply wR;simp -dsimp [h1])|refine aI ?_)
   refine vcStop.call Tryz.body186 (next_ok k n s l A1.length (by omega)) (rl [(1000, 5), (1001, 4)]) rfl rfl (by simp [BoxLeq]) (CallOk.of (by simp [BoxLeq]) rfl (by first | rfl | (simp [BoxLeq]; done)) (by simp [BoxLeq]) (by simp [BoxLeq])) (fun _ h => h.elim) (fun ⟨_, h⟩ => h.elim) (fun ⟨_, h⟩ => h.elim) (by simp [BoxLeq]) ?_
   simp -dsimp
   repeat(first|apply wG|(apply wR;simp -dsimp [ho, ho'])|refine aI ?_)
   refine loopW.next (sD1 bs k n s l (A1 ++ [(some o, lo, hi)])) (Wk.lessE [8] (by simp [sD1, e1]) (by simp [sD1, rdE_snoc, nthL_eq])) A2.length (by simp) ⟨A1 ++ [(some o, lo, hi)], A2, by simp [hA12], rfl, rfl⟩
  | nil =>
   simp only [List.append_nil] at hA12
   subst hA12
   refine cF (by simp [headE]) ?_
   refine WP.exit ?_
   simp -dsimp
   have hG0 : (rdE (l.map V.num) headE 0 (f0, 0)).1 = headG (l.map V.num) := rfl
   rw [hG0]
   have hl0 : ∀ m : Nat, min 4 l.length = min (4 + 0) l.length := fun _ => rfl
   generalize hGd : headG (l.map V.num) = G at *
   have hG49 : G 49 = 0 := by rw [← hGd]; rfl
   repeat(first|apply wG|(apply wR;simp -dsimp)|refine aI ?_)
   have key : (∃ E, (ents (G 3) (G 49) = some E ∧ clos (G 3) = none ∨ ents (G 3) (G 49) = none ∧ E = []) ∧ candE (l.map V.num) = E ∧ E.length ≤ 8 ∧ E.all entOk = true) ∨
     ∃ E T q off, ents (G 3) (G 49) = some E ∧ clos (G 3) = some (T, q, off) ∧ candE (l.map V.num) = E ∧ E.length ≤ 8 ∧ E.all entOk = true := by
    rw [candE, hGd, hG49]
    cases hE : ents (G 3) 0 with
    | none => exact .inl ⟨[], .inr ⟨rfl, rfl⟩, rfl, by simp, rfl⟩
    | some E =>
     cases hc : clos (G 3) with
     | none => exact .inl ⟨E, .inl ⟨rfl, rfl⟩, rfl, ents_len hE, ents_entOk hE⟩
     | some p =>
      obtain ⟨T, q, off⟩ := p
      exact .inr ⟨E, T, q, off, rfl, rfl, rfl, ents_len hE, ents_entOk hE⟩
   rcases key with ⟨E, hE, hcE, hl8, hEok⟩ | ⟨E, T, q, off, hE, hc, hcE, hl8, hEok⟩
   obtain ⟨fv, hfv, h38⟩ := open_W G 0 hE
   refine vcStop.call Tryz.body161 (h38) (rl [(1000, 2), (1001, 9), (0, 701)]) rfl rfl (by simp [hfv, BoxLeq]) (CallOk.of (by simp [hfv, BoxLeq]) rfl (by first | rfl | (simp [hfv, BoxLeq]; done)) (by simp [hfv, BoxLeq]) (by simp [hfv, BoxLeq])) (fun _ h => h.elim) (fun ⟨_, h⟩ => h.elim) (fun ⟨_, h⟩ => h.elim) (by simp [hfv, BoxLeq]) ?_
   simp -dsimp
   repeat(first|apply wG|(apply wR;simp -dsimp [hfv])|refine aI ?_)
   clear hE h38
   rotate_left
   have h38 := open_C G 0 hE hc
   refine vcStop.call Tryz.body161 (h38) (rl [(1000, 2), (1001, 9), (0, 701), (1, 702)]) rfl rfl (by simp [BoxLeq]) (CallOk.of (by simp [BoxLeq]) rfl (by first | rfl | (simp [BoxLeq]; done)) (by simp [BoxLeq]) (by simp [BoxLeq])) (fun _ h => h.elim) (fun ⟨_, h⟩ => h.elim) (fun ⟨_, h⟩ => h.elim) (by simp [BoxLeq]) ?_
   simp -dsimp
   repeat(first|apply wG|(apply wR;simp -dsimp)|refine aI ?_)
   clear hc h38 hE
   all_goals
    have hcand : candG (l.map V.num) = fup (rdE (l.map V.num) E 4 (G, 0)).1 54 (if (rdE (l.map V.num) E 4 (G, 0)).2 = 1 then 1 else 0) := by rw [candG, hcE, hGd]
    refine WP.loopWk (fun m S => ∃ A1 A2, E = A1 ++ A2 ∧ m = A2.length ∧ S = sD2 bs k n s l E A1) E.length (S0 := sD2 bs k n s l E [])
     (Wk.lessE [10, 26, 702] (by simp [sD2]) (by simp [sD2, rdE, hGd, entA])) ⟨[], E, rfl, rfl, rfl⟩ ?_
    rintro _ _ ⟨A1, A2, hA12, rfl, rfl⟩
    have hll : E.length = A1.length + A2.length := by rw [← List.length_append, ← hA12]
    simp -dsimp [sD2, hGd]
    repeat(first|apply wG|(apply wR;simp -dsimp)|refine aI ?_)
    cases A2 with
    | cons e A2 =>
     have e1 : IntKind.i64.wrap ((A1.length : Int) + 1) = (A1.length : Int) + 1 := IntWalk.i64_in _ (by simp at hll; omega)
     rw [List.length_cons] at hll
     have e5 : 4 + (A1.length + 1) = 4 + A1.length + 1 := rfl
     have h1 := entA_at 2 9 A1 e A2
     rw [← hA12] at h1
     have he : entOk e = true := by rw [hA12, List.all_append, List.all_cons] at hEok; simp only [Bool.and_eq_true] at hEok; exact hEok.2.1
     refine cT (by simp at hll ⊢; omega) ?_
     refine WP.skip ?_
     simp -dsimp
     refine WP.seq (WP.block ?_)
     obtain ⟨o, lo, hi⟩ := e
     cases o with
     | some o =>
      have ho : o < 57 ∧ o ≠ 54 := by simpa [entOk] using he
      simp only [locA] at h1
      repeat(first|apply wG|(apply wR;simp -dsimp [h1])|refine aI ?_)
      refine vcStop.call Tryz.body186 (next_ok k n s l (4 + A1.length) (by omega)) (rl [(1000, 5), (1001, 4)]) rfl rfl (by simp [BoxLeq]) (CallOk.of (by simp [BoxLeq]) rfl (by first | rfl | (simp [BoxLeq]; done)) (by simp [BoxLeq]) (by simp [BoxLeq])) (fun _ h => h.elim) (fun ⟨_, h⟩ => h.elim) (fun ⟨_, h⟩ => h.elim) (by simp [BoxLeq]) ?_
      simp -dsimp
      repeat(first|apply wG|(apply wR;simp -dsimp [ho.1, ho.2])|refine aI ?_)
      refine loopW.next (sD2 bs k n s l E (A1 ++ [(some o, lo, hi)])) (Wk.lessE [13] (by simp [sD2, e1]) (by simp [sD2, rdE_snoc, nthL_eq, hGd, e5])) A2.length (by simp) ⟨A1 ++ [(some o, lo, hi)], A2, by simp [hA12], rfl, rfl⟩
     | none =>
      simp only [locA] at h1
      repeat(first|apply wG|(apply wR;simp -dsimp [h1])|refine aI ?_)
      refine vcStop.call Tryz.body186 (next_ok k n s l (4 + A1.length) (by omega)) (rl [(1000, 5), (1001, 4)]) rfl rfl (by simp [BoxLeq]) (CallOk.of (by simp [BoxLeq]) rfl (by first | rfl | (simp [BoxLeq]; done)) (by simp [BoxLeq]) (by simp [BoxLeq])) (fun _ h => h.elim) (fun ⟨_, h⟩ => h.elim) (fun ⟨_, h⟩ => h.elim) (by simp [BoxLeq]) ?_
      simp -dsimp
      repeat(first|apply wG|(apply wR;simp -dsimp)|refine aI ?_)
      refine loopW.next (sD2 bs k n s l E (A1 ++ [(none, lo, hi)])) (Wk.lessE [13] (by simp [sD2, e1]) (by simp [sD2, rdE_snocN, nthL_eq, hGd, e5])) A2.length (by simp) ⟨A1 ++ [(none, lo, hi)], A2, by simp [hA12], rfl, rfl⟩
    | nil =>
     simp only [List.append_nil] at hA12
     subst hA12
     have hdl : ∀ g b e, g = candG (l.map V.num) → encR g = (b, e) → decL bs (l.map V.num) = if e = 0 ∧ bs = b then (g, 0) else (f0, 120) := fun g b e hg he => by
      rw [decL, ← hg, he]
      by_cases h1 : e = 0 ∧ bs = b
      ·rw [if_pos h1, if_pos (by rw [h1.1, h1.2])]
      ·rw [if_neg h1, if_neg (fun h2 => h1 ⟨(Prod.mk.inj h2).2, ((Prod.mk.inj h2).1).symm⟩)]
     have hd := hdl _ (encR (candG (l.map V.num))).1 (encR (candG (l.map V.num))).2 rfl rfl
     clear hdl
     rw [hd]
     rw [hcand] at h17 hg ⊢
     clear hd hcand
     generalize rdE (l.map V.num) E 4 (G, 0) = Q at *
     generalize hg2 : fup Q.1 54 (if Q.2 = 1 then 1 else 0) = g at *
     generalize encR g = R at *
     obtain ⟨c, e⟩ := R
     simp only at h17 ⊢
     refine cF (by simp) ?_
     refine WP.exit ?_
     simp -dsimp
     repeat(first|apply wG|(apply wR;simp -dsimp [hg2])|refine aI ?_)
     refine vcStop.call0 Tryz.body55 h17 rfl rfl (by simp [fD]) ?_
     simp -dsimp
     repeat(first|apply wG|(apply wR;simp -dsimp)|refine aI ?_)
     refine vcStopG.call0 Tryz.body88 (fun _ => bytesEqual_ok bs c) rfl (fun _ => rfl) (fun _ => by simp) ?_
     simp -dsimp
     refine WP.cond (b := !decide (e = 0 ∧ bs = c)) (by simp) (fun hb => ?_) (fun hb => ?_)
     ·have hb : ¬ (e = 0 ∧ bs = c) := by simpa only [Bool.not_eq_true', decide_eq_false_iff_not] using hb
      rw [if_neg hb]
      repeat(first|apply wG|(apply wR;simp -dsimp [zero47])|refine aI ?_)
      refine WP.ret (finQ.retE ?_)
      simp -dsimp [fD]
     ·have hb : e = 0 ∧ bs = c := by simpa using hb
      rw [if_pos hb]
      refine WP.skip ?_
      simp -dsimp
      repeat(first|apply wG|(apply wR;simp -dsimp)|refine aI ?_)
      refine WP.ret (finQ.retE ?_)
      simp -dsimp [fD]
 ·cases hbad
  simp only [V.items, show ¬ (20 : Int) = 0 by decide, if_false]
  refine Fun.of_wp (pn := noPn) Tryz.tab Tryz.func118 rfl fun β0 => ?_
  simp only [Tryz.f118]
  repeat(first|apply wG|(apply wR;simp -dsimp [zero47])|refine aI ?_)
  refine vcStop.call0 Tryz.body185 h18 rfl rfl (by simp) ?_
  simp -dsimp [V.d, V.cells]
  repeat(first|apply wG|(apply wR;simp -dsimp)|refine aI ?_)
  refine cT (by simp) ?_
  repeat(first|apply wG|(apply wR;simp -dsimp)|refine aI ?_)
  refine WP.ret (finQ.retE ?_)
  simp -dsimp [fD]
structure Cmp {α : Type} (c : α → α → Int) : Prop where
 val : ∀ a b, c a b = -1 ∨ c a b = 0 ∨ c a b = 1
 anti : ∀ a b, c b a = - c a b
 trans : ∀ a b d, c a b ≤ 0 → c b d ≤ 0 → c a d ≤ 0
 same : ∀ a b d, c a b = 0 → c a d = c b d
theorem Cmp.on {α β : Type} {c : β → β → Int} (h : Cmp c) (p : α → β) : Cmp fun a b => c (p a) (p b) :=
 ⟨fun _ _ => h.val _ _, fun _ _ => h.anti _ _, fun _ _ _ => h.trans _ _ _, fun _ _ _ => h.same _ _ _⟩
end Go.Proofs.YtfgcgagcpnbgmaaGreatDoor
