/-
  Decode of facts.
-/
import Derived.Test.YtjjaabidbeoomaaDoorKFr
set_option linter.unusedSectionVars false
set_option linter.unusedSimpArgs false
set_option linter.unusedVariables false
namespace Go.Proofs.YtjjaabidbeoomaaDoor
open Go.Xe Go.RowKit

def V.items : V → List V
  | .mk _ _ _ l => l
def numsB (bs : List UInt8) : List Int := (pDec bs).1.items.map V.num
/-- What Decode says of a list of numbers. -/
def decL (bs : List UInt8) (l : List Int) : (Nat → Int) × Int := if encR (candG l) = (bs, 0) then (candG l, 0) else (f0, 120)
/-- What Decode says. -/
def decF (bs : List UInt8) : (Nat → Int) × Int := if (pDec bs).2 = 0 then decL bs (numsB bs) else (f0, (pDec bs).2)
def decFD (bs : List UInt8) : D := .tup [fD (decF bs).1, .v (.int .i64 (decF bs).2)]
theorem pDec_facts {bs : List UInt8} (h : bs.length ≤ 1000000000000) : ((pDec bs).2 = 0 ∧ (pDec bs).1.rng = true ∧ (pDec bs).1.enc = bs ∧ (pDec bs).1.ok = true ∧ (pDec bs).1.dep ≤ 16) ∨ pDec bs = (.mk 0 0 ⟨#[]⟩ [], 20) := by
  cases hv : pVal 16 bs with
  | none => right; rw [pDec, hv]
  | some x =>
    obtain ⟨v, r⟩ := x
    cases r with
    | cons c r => right; rw [pDec, hv]
    | nil =>
      obtain ⟨w1, w2, w3, w4⟩ := V.wrote 16 bs v [] h hv
      left
      rw [pDec, hv]
      exact ⟨rfl, w4, by rw [w1, List.append_nil], w2, w3⟩
theorem rngL_num : ∀ {l : List V}, V.rngL l = true → ∀ x ∈ l.map V.num, isI x
  | [], _, x, hx => by simp at hx
  | .mk k n s l' :: l, h, x, hx => by
    simp only [V.rngL, Bool.and_eq_true] at h
    rw [List.map_cons, List.mem_cons] at hx
    rcases hx with rfl | hx
    · exact (V.rng_n h.1).1
    · exact rngL_num h.2 x hx
theorem nthI_in {l : List Int} (h : ∀ x ∈ l, isI x) (i : Nat) : isI (nthI l i) := by
  rw [nthI]
  cases hi : l[i]? with
  | none => exact isI0
  | some x => exact h x (List.mem_of_getElem? hi)
theorem rdE_in {l : List Int} (h : ∀ x ∈ l, isI x) : ∀ (A : List Ent) (j : Nat) (p : (Nat → Int) × Int), (∀ i, isI (p.1 i)) → isI p.2 → (∀ i, isI ((rdE l A j p).1 i)) ∧ isI (rdE l A j p).2
  | [], _, _, h1, h2 => ⟨h1, h2⟩
  | (some o, _, _) :: A, j, p, h1, h2 => rdE_in h A (j + 1) _ (fup_in h1 (nthI_in h j)) h2
  | (none, _, _) :: A, j, p, h1, h2 => rdE_in h A (j + 1) _ h1 (nthI_in h j)
theorem rdE_out {l : List Int} : ∀ (A : List Ent) (j : Nat) (p : (Nat → Int) × Int), A.all entOk = true → (∀ i, 57 ≤ i → p.1 i = 0) → ∀ i, 57 ≤ i → (rdE l A j p).1 i = 0
  | [], _, _, _, h1 => h1
  | (some o, lo, hi) :: A, j, p, hA, h1 => by
    rw [List.all_cons, Bool.and_eq_true] at hA
    refine rdE_out A (j + 1) _ hA.2 fun i hi => ?_
    have : o < 57 ∧ o ≠ 54 := by simpa [entOk] using hA.1
    simp only [fup]
    rw [if_neg (by omega)]
    exact h1 i hi
  | (none, lo, hi) :: A, j, p, hA, h1 => by
    rw [List.all_cons, Bool.and_eq_true] at hA
    exact rdE_out A (j + 1) _ hA.2 h1
theorem candE_ok (l : List Int) : (candE l).all entOk = true := by
  rw [candE]
  cases h : ents (headG l 3) 0 with
  | none => rfl
  | some E => exact ents_entOk h
theorem candG_ok {l : List Int} (h : ∀ x ∈ l, isI x) : fOk (candG l) := by
  have h1 := rdE_in h headE 0 (f0, 0) (fun _ => isI0) isI0
  have h2 := rdE_in h (candE l) 4 (headG l, 0) h1.1 isI0
  refine ⟨fup_in h2.1 (by split <;> simp [isI]), ?_, fun i hi => ?_⟩
  · unfold candG fup; simp only [if_true]; split <;> simp
  · rw [candG, fup, if_neg (by omega)]
    exact rdE_out (candE l) 4 _ (candE_ok l) (rdE_out headE 0 _ head_entOk (fun _ _ => rfl)) i hi

theorem headE_some {e : Ent} (h : e ∈ headE) : ∃ o lo hi, e = (some o, lo, hi) ∧ o < 57 ∧ o ≠ 54 := by
  simp only [headE, List.mem_cons, List.not_mem_nil, or_false] at h
  rcases h with rfl | rfl | rfl | rfl <;> exact ⟨_, _, _, rfl, by decide, by decide⟩
theorem headG_49 (l : List Int) : headG l 49 = 0 := rfl
theorem V.items_len {v : V} (h : v.ok = true) : v.items.length ≤ v.enc.length := by
  obtain ⟨k, n, s, l⟩ := v
  rw [V.enc]
  simp only [V.items]
  simp [V.ok] at h
  have := V.encL_len l
  by_cases h1 : k = 1
  · simp [h1] at h; simp [h.2]
  · by_cases h2 : k = 2
    · simp [h2] at h; simp [h.2]
    · simp [h1, h2]; omega
theorem rdE_snoc (l : List Int) (A : List Ent) (o : Nat) (lo hi : Int) (j : Nat) (p : (Nat → Int) × Int) : rdE l (A ++ [(some o, lo, hi)]) j p = (fup (rdE l A j p).1 o (nthI l (j + A.length)), (rdE l A j p).2) := by rw [rdE_append]; rfl
theorem rdE_snocN (l : List Int) (A : List Ent) (lo hi : Int) (j : Nat) (p : (Nat → Int) × Int) : rdE l (A ++ [(none, lo, hi)]) j p = ((rdE l A j p).1, nthI l (j + A.length)) := by rw [rdE_append]; rfl

/-- What open hands back, as far as Decode asks: where no closure comes with it. -/
theorem open_W (f : Nat → Int) (s : Int) {E : List Ent} (hE : ents (f 3) (f 49) = some E ∧ clos (f 3) = none ∨ ents (f 3) (f 49) = none ∧ E = []) :
    ∃ fv : Value, fv.oneCell' = true ∧ Fun Tryd.prog 30 [.ptr 1000 0, .ptr 1001 0] [(1000, fB f), (1001, sB s)] (.tup [.agg [.row 0, .d (.v fv)], .d .any]) [(1000, fB f), (1001, sB s), (0, .row 99 3 E.length (entA 1000 1001 E))] fun _ => False := by
  rcases hE with ⟨hE, hc⟩ | ⟨hE, rfl⟩
  · exact ⟨_, rfl, (open_P f s hE hc).res (Leq.tup ⟨Leq.refl _, Leq.any _, trivial⟩) (by simp [subB])⟩
  · refine ⟨.nilFunc, rfl, fun w I β vs hm hd => ?_⟩
    refine Calls.mono (open_no f s hE w I β vs hm hd) fun e w' he => ?_
    cases e with
    | returned v =>
      obtain ⟨I', β', h1, h2, h3⟩ := he
      refine ⟨I', upd β' 0 (.slice none 0 0), (h1.addNil (k := 0) rfl 99 3).sub (fun k b h => h), ?_, fun k hk => by rw [upd_other _ _ (by omega)]; exact h3 k hk⟩
      obtain ⟨vs1, rfl, v1, vs2, rfl, ⟨us, rfl, u1, us2, rfl, h4, u3, us3, rfl, h5, h6⟩, v3, vs4, rfl, h7, h8⟩ := h2
      refine ⟨_, rfl, _, _, rfl, ⟨_, rfl, _, _, rfl, ?_, _, _, rfl, h5, h6⟩, _, _, rfl, trivial, h8⟩
      rw [DenA_v] at h4
      subst h4
      exact ⟨by rw [upd_same], .inl ⟨_, _, _, rfl⟩⟩
    | panicked ch => exact he
    | outgrown => exact he

end Go.Proofs.YtjjaabidbeoomaaDoor
