/-
  Decode of facts.
-/
import Derived.Test.YtjfkeicmdaanbaaDoorKFr
set_option linter.unusedSectionVars false
set_option linter.unusedSimpArgs false
set_option linter.unusedVariables false
namespace Go.Proofs.YtjfkeicmdaanbaaDoor
open Go.Xe Go.RowKit

def V.items : V → List V
  | .mk _ _ _ l => l
def numsB (bs : List UInt8) : List Int := (pDec bs).1.items.map V.num
/-- What Decode says of a list of numbers. -/
def decL (bs : List UInt8) (l : List Int) : (Nat → Int) × Int := if encR (candG l) = (bs, 0) then (candG l, 0) else (f0, 120)
/-- What Decode says. -/
def decF (bs : List UInt8) : (Nat → Int) × Int := if (pDec bs).2 = 0 then decL bs (numsB bs) else (f0, (pDec bs).2)
def decFD (bs : List UInt8) : D := .tup [fD (decF bs).1, .v (.int .i64 (decF bs).2)]
theorem pDec_facts {bs : List UInt8} (h : bs.length ≤ 1000000000000) : ((pDec bs).2 = 0 ∧ (pDec bs).1.rng = true ∧ (pDec bs).1.enc = bs ∧ (pDec bs).1.ok = true ∧ (pDec bs).1.dep ≤ 16) ∨ pDec bs = (.mk 0 0 ⟨#[]⟩ [], 20) := by
  cases hv : pVal 16 bs with
  | none => right; rw [pDec, hv]
  | some x =>
    obtain ⟨v, r⟩ := x
    cases r with
    | cons c r => right; rw [pDec, hv]
    | nil =>
      obtain ⟨w1, w2, w3, w4⟩ := V.wrote 16 bs v [] h hv
      left
      rw [pDec, hv]
      exact ⟨rfl, w4, by rw [w1, List.append_nil], w2, w3⟩
theorem rngL_num : ∀ {l : List V}, V.rngL l = true → ∀ x ∈ l.map V.num, isI x
  | [], _, x, hx => by simp at hx
  | .mk k n s l' :: l, h, x, hx => by
    simp only [V.rngL, Bool.and_eq_true] at h
    rw [List.map_cons, List.mem_cons] at hx
    rcases hx with rfl | hx
    · exact (V.rng_n h.1).1
    · exact rngL_num h.2 x hx
theorem nthI_in {l : List Int} (h : ∀ x ∈ l, isI x) (i : Nat) : isI (nthI l i) := by
  rw [nthI]
  cases hi : l[i]? with
  | none => exact isI0
  | some x => exact h x (List.mem_of_getElem? hi)
theorem rdE_in {l : List Int} (h : ∀ x ∈ l, isI x) : ∀ (A : List Ent) (j : Nat) (p : (Nat → Int) × Int), (∀ i, isI (p.1 i)) → isI p.2 → (∀ i, isI ((rdE l A j p).1 i)) ∧ isI (rdE l A j p).2
  | [], _, _, h1, h2 => ⟨h1, h2⟩
  | (some o, _, _) :: A, j, p, h1, h2 => rdE_in h A (j + 1) _ (fup_in h1 (nthI_in h j)) h2
  | (none, _, _) :: A, j, p, h1, h2 => rdE_in h A (j + 1) _ h1 (nthI_in h j)
theorem rdE_out {l : List Int} : ∀ (A : List Ent) (j : Nat) (p : (Nat → Int) × Int), A.all entOk = true → (∀ i, 57 ≤ i → p.1 i = 0) → ∀ i, 57 ≤ i → (rdE l A j p).1 i = 0
  | [], _, _, _, h1 => h1
  | (some o, lo, hi) :: A, j, p, hA, h1 => by
    rw [List.all_cons, Bool.and_eq_true] at hA
    refine rdE_out A (j + 1) _ hA.2 fun i hi => ?_
    have : o < 57 ∧ o ≠ 54 := by simpa [entOk] using hA.1
    simp only [fup]
    rw [if_neg (by omega)]
    exact h1 i hi
  | (none, lo, hi) :: A, j, p, hA, h1 => by
    rw [List.all_cons, Bool.and_eq_true] at hA
    exact rdE_out A (j + 1) _ hA.2 h1
theorem candE_ok (l : List Int) : (candE l).all entOk = true := by
  rw [candE]
  cases h : ents (headG l 3) 0 with
  | none => rfl
  | some E => exact ents_entOk h
theorem candG_ok {l : List Int} (h : ∀ x ∈ l, isI x) : fOk (candG l) := by
  have h1 := rdE_in h headE 0 (f0, 0) (fun _ => isI0) isI0
  have h2 := rdE_in h (candE l) 4 (headG l, 0) h1.1 isI0
  refine ⟨fup_in h2.1 (by split <;> simp [isI]), ?_, fun i hi => ?_⟩
  · unfold candG fup; simp only [if_true]; split <;> simp
  · rw [candG, fup, if_neg (by omega)]
    exact rdE_out (candE l) 4 _ (candE_ok l) (rdE_out headE 0 _ head_entOk (fun _ _ => rfl)) i hi

theorem headE_some {e : Ent} (h : e ∈ headE) : ∃ o lo hi, e = (some o, lo, hi) ∧ o < 57 ∧ o ≠ 54 := by
  simp only [headE, List.mem_cons, List.not_mem_nil, or_false] at h
  rcases h with rfl | rfl | rfl | rfl <;> exact ⟨_, _, _, rfl, by decide, by decide⟩
theorem headG_49 (l : List Int) : headG l 49 = 0 := rfl
def sD1 (bs : List UInt8) (k n : Int) (s : ByteArray) (l : List V) (A1 : List Ent) : St :=
  mkS 74 [(0, .d (slB bs)), (2, .ptr 2 0), (3, .d (.v (.int .i64 0))), (4, .ptr 4 0), (5, .ptr 5 0), (6, .fn (.func 36) [] [.ptr 5 0, .ptr 4 0]), (26, .row 26), (27, .d (.v (.int .i64 4))), (28, .d (.v (.int .i64 A1.length)))]
    [(2, fB (rdE (l.map V.num) A1 0 (f0, 0)).1), (4, vB k n s l), (5, sB (min A1.length l.length : Nat)), (26, .row 88 3 4 (entA 2 2 headE))]
def sD2 (bs : List UInt8) (k n : Int) (s : ByteArray) (l : List V) (E A1 : List Ent) : St :=
  mkS 74 [(0, .d (slB bs)), (2, .ptr 2 0), (3, .d (.v (.int .i64 0))), (4, .ptr 4 0), (5, .ptr 5 0), (6, .fn (.func 36) [] [.ptr 5 0, .ptr 4 0]), (9, .ptr 9 0), (43, .row 701), (44, .d (.v (.int .i64 E.length))), (45, .d (.v (.int .i64 A1.length)))]
    [(2, fB (rdE (l.map V.num) A1 4 (headG (l.map V.num), 0)).1), (4, vB k n s l), (5, sB (min (4 + A1.length) l.length : Nat)), (9, sB (rdE (l.map V.num) A1 4 (headG (l.map V.num), 0)).2), (701, .row 88 3 E.length (entA 2 9 E))]
theorem V.items_len {v : V} (h : v.ok = true) : v.items.length ≤ v.enc.length := by
  obtain ⟨k, n, s, l⟩ := v
  rw [V.enc]
  simp only [V.items]
  simp [V.ok] at h
  have := V.encL_len l
  by_cases h1 : k = 1
  · simp [h1] at h; simp [h.2]
  · by_cases h2 : k = 2
    · simp [h2] at h; simp [h.2]
    · simp [h1, h2]; omega
theorem rdE_snoc (l : List Int) (A : List Ent) (o : Nat) (lo hi : Int) (j : Nat) (p : (Nat → Int) × Int) : rdE l (A ++ [(some o, lo, hi)]) j p = (fup (rdE l A j p).1 o (nthI l (j + A.length)), (rdE l A j p).2) := by rw [rdE_append]; rfl
theorem rdE_snocN (l : List Int) (A : List Ent) (lo hi : Int) (j : Nat) (p : (Nat → Int) × Int) : rdE l (A ++ [(none, lo, hi)]) j p = ((rdE l A j p).1, nthI l (j + A.length)) := by rw [rdE_append]; rfl

/-- What open hands back, as far as Decode asks: where no closure comes with it. -/
theorem open_W (f : Nat → Int) (s : Int) {E : List Ent} (hE : ents (f 3) (f 49) = some E ∧ clos (f 3) = none ∨ ents (f 3) (f 49) = none ∧ E = []) :
    ∃ fv : Value, fv.oneCell' = true ∧ Fun Tryd.prog 38 [.ptr 1000 0, .ptr 1001 0] [(1000, fB f), (1001, sB s)] (.tup [.agg [.row 0, .d (.v fv)], .d .any]) [(1000, fB f), (1001, sB s), (0, .row 88 3 E.length (entA 1000 1001 E))] fun _ => False := by
  rcases hE with ⟨hE, hc⟩ | ⟨hE, rfl⟩
  · exact ⟨_, rfl, (open_P f s hE hc).res (Leq.tup ⟨Leq.refl _, Leq.any _, trivial⟩) (by simp [subB])⟩
  · refine ⟨.nilFunc, rfl, fun w I β vs hm hd => ?_⟩
    refine Calls.mono (open_no f s hE w I β vs hm hd) fun e w' he => ?_
    cases e with
    | returned v =>
      obtain ⟨I', β', h1, h2, h3⟩ := he
      refine ⟨I', upd β' 0 (.slice none 0 0), (h1.addNil (k := 0) rfl 88 3).sub (fun k b h => h), ?_, fun k hk => by rw [upd_other _ _ (by omega)]; exact h3 k hk⟩
      obtain ⟨vs1, rfl, v1, vs2, rfl, ⟨us, rfl, u1, us2, rfl, h4, u3, us3, rfl, h5, h6⟩, v3, vs4, rfl, h7, h8⟩ := h2
      refine ⟨_, rfl, _, _, rfl, ⟨_, rfl, _, _, rfl, ?_, _, _, rfl, h5, h6⟩, _, _, rfl, trivial, h8⟩
      rw [DenA_v] at h4
      subst h4
      exact ⟨by rw [upd_same], _, _, _, rfl⟩
    | panicked ch => exact he
    | outgrown => exact he

set_option maxRecDepth 10000 in
set_option maxHeartbeats 4000000 in
theorem factsDecode_ok (bs : List UInt8) (hbs : bs.length ≤ 1000000000) : Fn0 Tryd.prog 19 [slB bs] (decFD bs) := by
  have h18 := f18_ok bs (by omega)
  rw [decD] at h18
  have hpf := pDec_facts (bs := bs) (by omega)
  unfold decFD decF numsB
  generalize pDec bs = R at *
  obtain ⟨⟨k, n, s, l⟩, e⟩ := R
  rcases hpf with ⟨h0, hrng, henc, hok, _⟩ | hbad
  · simp only at h0 hrng henc hok
    subst h0
    have hL := (V.rng_n hrng).2
    have hin := rngL_num hL
    have hlen := V.items_len hok
    rw [henc] at hlen
    simp only [V.items] at hlen
    have hg := candG_ok hin
    have h17 := encode_ok _ hg
    rw [encD] at h17
    simp only [if_true, V.items]
    refine Fun.of_wp (pn := noPn) Tryd.tab Tryd.func19 rfl fun β0 => ?_
    simp only [Tryd.f19]
    repeat (first | refine WP.seq ?_ | refine WP.block ?_ | (refine WP.region Tryd.tab ?_; simp -dsimp [zero47]) | (refine WP.draw Tryd.tab Tryd.mixed ?_; simp -dsimp [zero47]) | refine And.intro (by first | rfl | omega | decide | (simp; done) | (simp; omega) | (intro _ h; exact fcs_side h; done) | (intros; simp_all; done)) ?_)
    refine vcStop.call0 Tryd.body21 h18 rfl rfl (by simp) ?_
    simp -dsimp [V.d, V.cells]
    repeat (first | refine WP.seq ?_ | refine WP.block ?_ | (refine WP.region Tryd.tab ?_; simp -dsimp) | (refine WP.draw Tryd.tab Tryd.mixed ?_; simp -dsimp) | refine And.intro (by first | rfl | omega | decide | (simp; done) | (simp; omega) | (intro _ h; exact fcs_side h; done) | (intros; simp_all; done)) ?_)
    refine WP.cond (b := false) (by simp) (fun h => by cases h) (fun _ => ?_)
    refine WP.skip ?_
    simp -dsimp
    repeat (first | refine WP.seq ?_ | refine WP.block ?_ | (refine WP.region Tryd.tab ?_; simp -dsimp) | (refine WP.draw Tryd.tab Tryd.mixed ?_; simp -dsimp) | refine And.intro (by first | rfl | omega | decide | (simp; done) | (simp; omega) | (intro _ h; exact fcs_side h; done) | (intros; simp_all; done)) ?_)
    refine vcStop.call Tryd.body37 (head_ok f0) (rl [(1000, 2), (0, 26)]) rfl rfl (by simp [BoxLeq]) (CallOk.of (by simp [BoxLeq]) rfl (by first | rfl | (simp [BoxLeq]; done)) (by simp [BoxLeq]) (by simp [BoxLeq])) (fun _ h => h.elim) (fun ⟨_, h⟩ => h.elim) (fun ⟨_, h⟩ => h.elim) (by simp [BoxLeq]) ?_
    simp -dsimp
    repeat (first | refine WP.seq ?_ | refine WP.block ?_ | (refine WP.region Tryd.tab ?_; simp -dsimp) | (refine WP.draw Tryd.tab Tryd.mixed ?_; simp -dsimp) | refine And.intro (by first | rfl | omega | decide | (simp; done) | (simp; omega) | (intro _ h; exact fcs_side h; done) | (intros; simp_all; done)) ?_)
    refine WP.loopWk (fun m S => ∃ A1 A2, headE = A1 ++ A2 ∧ m = A2.length ∧ S = sD1 bs k n s l A1) 4 (S0 := sD1 bs k n s l [])
      (Wk.lessE [] (by simp [sD1]) (by simp [sD1, rdE])) ⟨[], headE, rfl, rfl, rfl⟩ ?_
    rintro _ _ ⟨A1, A2, hA12, rfl, rfl⟩
    have hll : 4 = A1.length + A2.length := by rw [← List.length_append, ← hA12]; rfl
    simp -dsimp [sD1]
    repeat (first | refine WP.seq ?_ | refine WP.block ?_ | (refine WP.region Tryd.tab ?_; simp -dsimp) | (refine WP.draw Tryd.tab Tryd.mixed ?_; simp -dsimp) | refine And.intro (by first | rfl | omega | decide | (simp; done) | (simp; omega) | (intro _ h; exact fcs_side h; done) | (intros; simp_all; done)) ?_)
    cases A2 with
    | cons e A2 =>
      have hl1 : A1.length < 4 := by simp at hll; omega
      have e1 : IntKind.i64.wrap ((A1.length : Int) + 1) = (A1.length : Int) + 1 := IntWalk.i64_in _ (by omega)
      obtain ⟨o, lo, hi, rfl, ho, ho'⟩ := headE_some (e := e) (by rw [hA12]; simp)
      have h1 := entA_at 2 2 A1 (some o, lo, hi) A2
      rw [← hA12] at h1
      simp only [locA] at h1
      refine WP.cond (b := true) (by simp; omega) (fun _ => ?_) (fun h => by cases h)
      refine WP.skip ?_
      simp -dsimp
      refine WP.seq (WP.block ?_)
      repeat (first | refine WP.seq ?_ | refine WP.block ?_ | (refine WP.region Tryd.tab ?_; simp -dsimp [h1]) | (refine WP.draw Tryd.tab Tryd.mixed ?_; simp -dsimp [h1]) | refine And.intro (by first | rfl | omega | decide | (simp; done) | (simp; omega) | (intro _ h; exact fcs_side h; done) | (intros; simp_all; done)) ?_)
      refine vcStop.call Tryd.body36 (next_ok k n s l A1.length (by omega)) (rl [(1000, 5), (1001, 4)]) rfl rfl (by simp [BoxLeq]) (CallOk.of (by simp [BoxLeq]) rfl (by first | rfl | (simp [BoxLeq]; done)) (by simp [BoxLeq]) (by simp [BoxLeq])) (fun _ h => h.elim) (fun ⟨_, h⟩ => h.elim) (fun ⟨_, h⟩ => h.elim) (by simp [BoxLeq]) ?_
      simp -dsimp
      repeat (first | refine WP.seq ?_ | refine WP.block ?_ | (refine WP.region Tryd.tab ?_; simp -dsimp [ho, ho']) | (refine WP.draw Tryd.tab Tryd.mixed ?_; simp -dsimp [ho, ho']) | refine And.intro (by first | rfl | omega | decide | (simp; done) | (simp; omega) | (intro _ h; exact fcs_side h; done) | (intros; simp_all; done)) ?_)
      refine loopW.next (sD1 bs k n s l (A1 ++ [(some o, lo, hi)])) (Wk.lessE [8] (by simp [sD1, e1]) (by simp [sD1, rdE_snoc, nthL_eq])) A2.length (by simp) ⟨A1 ++ [(some o, lo, hi)], A2, by simp [hA12], rfl, rfl⟩
    | nil =>
      simp only [List.append_nil] at hA12
      subst hA12
      refine WP.cond (b := false) (by simp [headE]) (fun h => by cases h) (fun _ => ?_)
      refine WP.exit ?_
      simp -dsimp
      have hG0 : (rdE (l.map V.num) headE 0 (f0, 0)).1 = headG (l.map V.num) := rfl
      rw [hG0]
      have hl0 : ∀ m : Nat, min 4 l.length = min (4 + 0) l.length := fun _ => rfl
      generalize hGd : headG (l.map V.num) = G at *
      have hG49 : G 49 = 0 := by rw [← hGd]; rfl
      repeat (first | refine WP.seq ?_ | refine WP.block ?_ | (refine WP.region Tryd.tab ?_; simp -dsimp) | (refine WP.draw Tryd.tab Tryd.mixed ?_; simp -dsimp) | refine And.intro (by first | rfl | omega | decide | (simp; done) | (simp; omega) | (intro _ h; exact fcs_side h; done) | (intros; simp_all; done)) ?_)
      have key : (∃ E, (ents (G 3) (G 49) = some E ∧ clos (G 3) = none ∨ ents (G 3) (G 49) = none ∧ E = []) ∧ candE (l.map V.num) = E ∧ E.length ≤ 8 ∧ E.all entOk = true) ∨
          ∃ E T q off, ents (G 3) (G 49) = some E ∧ clos (G 3) = some (T, q, off) ∧ candE (l.map V.num) = E ∧ E.length ≤ 8 ∧ E.all entOk = true := by
        rw [candE, hGd, hG49]
        cases hE : ents (G 3) 0 with
        | none => exact .inl ⟨[], .inr ⟨rfl, rfl⟩, rfl, by simp, rfl⟩
        | some E =>
          cases hc : clos (G 3) with
          | none => exact .inl ⟨E, .inl ⟨rfl, rfl⟩, rfl, ents_len hE, ents_entOk hE⟩
          | some p =>
            obtain ⟨T, q, off⟩ := p
            exact .inr ⟨E, T, q, off, rfl, rfl, rfl, ents_len hE, ents_entOk hE⟩
      rcases key with ⟨E, hE, hcE, hl8, hEok⟩ | ⟨E, T, q, off, hE, hc, hcE, hl8, hEok⟩
      obtain ⟨fv, hfv, h38⟩ := open_W G 0 hE
      refine vcStop.call Tryd.body38 (h38) (rl [(1000, 2), (1001, 9), (0, 701)]) rfl rfl (by simp [hfv, BoxLeq]) (CallOk.of (by simp [hfv, BoxLeq]) rfl (by first | rfl | (simp [hfv, BoxLeq]; done)) (by simp [hfv, BoxLeq]) (by simp [hfv, BoxLeq])) (fun _ h => h.elim) (fun ⟨_, h⟩ => h.elim) (fun ⟨_, h⟩ => h.elim) (by simp [hfv, BoxLeq]) ?_
      simp -dsimp
      repeat (first | refine WP.seq ?_ | refine WP.block ?_ | (refine WP.region Tryd.tab ?_; simp -dsimp [hfv]) | (refine WP.draw Tryd.tab Tryd.mixed ?_; simp -dsimp [hfv]) | refine And.intro (by first | rfl | omega | decide | (simp; done) | (simp; omega) | (intro _ h; exact fcs_side h; done) | (intros; simp_all; done)) ?_)
      clear hE h38
      rotate_left
      have h38 := open_C G 0 hE hc
      refine vcStop.call Tryd.body38 (h38) (rl [(1000, 2), (1001, 9), (0, 701), (1, 702)]) rfl rfl (by simp [BoxLeq]) (CallOk.of (by simp [BoxLeq]) rfl (by first | rfl | (simp [BoxLeq]; done)) (by simp [BoxLeq]) (by simp [BoxLeq])) (fun _ h => h.elim) (fun ⟨_, h⟩ => h.elim) (fun ⟨_, h⟩ => h.elim) (by simp [BoxLeq]) ?_
      simp -dsimp
      repeat (first | refine WP.seq ?_ | refine WP.block ?_ | (refine WP.region Tryd.tab ?_; simp -dsimp) | (refine WP.draw Tryd.tab Tryd.mixed ?_; simp -dsimp) | refine And.intro (by first | rfl | omega | decide | (simp; done) | (simp; omega) | (intro _ h; exact fcs_side h; done) | (intros; simp_all; done)) ?_)
      clear hc h38 hE
      all_goals
        have hcand : candG (l.map V.num) = fup (rdE (l.map V.num) E 4 (G, 0)).1 54 (if (rdE (l.map V.num) E 4 (G, 0)).2 = 1 then 1 else 0) := by rw [candG, hcE, hGd]
        refine WP.loopWk (fun m S => ∃ A1 A2, E = A1 ++ A2 ∧ m = A2.length ∧ S = sD2 bs k n s l E A1) E.length (S0 := sD2 bs k n s l E [])
          (Wk.lessE [10, 26, 702] (by simp [sD2]) (by simp [sD2, rdE, hGd, entA])) ⟨[], E, rfl, rfl, rfl⟩ ?_
        rintro _ _ ⟨A1, A2, hA12, rfl, rfl⟩
        have hll : E.length = A1.length + A2.length := by rw [← List.length_append, ← hA12]
        simp -dsimp [sD2, hGd]
        repeat (first | refine WP.seq ?_ | refine WP.block ?_ | (refine WP.region Tryd.tab ?_; simp -dsimp) | (refine WP.draw Tryd.tab Tryd.mixed ?_; simp -dsimp) | refine And.intro (by first | rfl | omega | decide | (simp; done) | (simp; omega) | (intro _ h; exact fcs_side h; done) | (intros; simp_all; done)) ?_)
        cases A2 with
        | cons e A2 =>
          have e1 : IntKind.i64.wrap ((A1.length : Int) + 1) = (A1.length : Int) + 1 := IntWalk.i64_in _ (by simp at hll; omega)
          rw [List.length_cons] at hll
          have e5 : 4 + (A1.length + 1) = 4 + A1.length + 1 := rfl
          have h1 := entA_at 2 9 A1 e A2
          rw [← hA12] at h1
          have he : entOk e = true := by rw [hA12, List.all_append, List.all_cons] at hEok; simp only [Bool.and_eq_true] at hEok; exact hEok.2.1
          refine WP.cond (b := true) (by simp at hll ⊢; omega) (fun _ => ?_) (fun h => by cases h)
          refine WP.skip ?_
          simp -dsimp
          refine WP.seq (WP.block ?_)
          obtain ⟨o, lo, hi⟩ := e
          cases o with
          | some o =>
            have ho : o < 57 ∧ o ≠ 54 := by simpa [entOk] using he
            simp only [locA] at h1
            repeat (first | refine WP.seq ?_ | refine WP.block ?_ | (refine WP.region Tryd.tab ?_; simp -dsimp [h1]) | (refine WP.draw Tryd.tab Tryd.mixed ?_; simp -dsimp [h1]) | refine And.intro (by first | rfl | omega | decide | (simp; done) | (simp; omega) | (intro _ h; exact fcs_side h; done) | (intros; simp_all; done)) ?_)
            refine vcStop.call Tryd.body36 (next_ok k n s l (4 + A1.length) (by omega)) (rl [(1000, 5), (1001, 4)]) rfl rfl (by simp [BoxLeq]) (CallOk.of (by simp [BoxLeq]) rfl (by first | rfl | (simp [BoxLeq]; done)) (by simp [BoxLeq]) (by simp [BoxLeq])) (fun _ h => h.elim) (fun ⟨_, h⟩ => h.elim) (fun ⟨_, h⟩ => h.elim) (by simp [BoxLeq]) ?_
            simp -dsimp
            repeat (first | refine WP.seq ?_ | refine WP.block ?_ | (refine WP.region Tryd.tab ?_; simp -dsimp [ho.1, ho.2]) | (refine WP.draw Tryd.tab Tryd.mixed ?_; simp -dsimp [ho.1, ho.2]) | refine And.intro (by first | rfl | omega | decide | (simp; done) | (simp; omega) | (intro _ h; exact fcs_side h; done) | (intros; simp_all; done)) ?_)
            refine loopW.next (sD2 bs k n s l E (A1 ++ [(some o, lo, hi)])) (Wk.lessE [13] (by simp [sD2, e1]) (by simp [sD2, rdE_snoc, nthL_eq, hGd, e5])) A2.length (by simp) ⟨A1 ++ [(some o, lo, hi)], A2, by simp [hA12], rfl, rfl⟩
          | none =>
            simp only [locA] at h1
            repeat (first | refine WP.seq ?_ | refine WP.block ?_ | (refine WP.region Tryd.tab ?_; simp -dsimp [h1]) | (refine WP.draw Tryd.tab Tryd.mixed ?_; simp -dsimp [h1]) | refine And.intro (by first | rfl | omega | decide | (simp; done) | (simp; omega) | (intro _ h; exact fcs_side h; done) | (intros; simp_all; done)) ?_)
            refine vcStop.call Tryd.body36 (next_ok k n s l (4 + A1.length) (by omega)) (rl [(1000, 5), (1001, 4)]) rfl rfl (by simp [BoxLeq]) (CallOk.of (by simp [BoxLeq]) rfl (by first | rfl | (simp [BoxLeq]; done)) (by simp [BoxLeq]) (by simp [BoxLeq])) (fun _ h => h.elim) (fun ⟨_, h⟩ => h.elim) (fun ⟨_, h⟩ => h.elim) (by simp [BoxLeq]) ?_
            simp -dsimp
            repeat (first | refine WP.seq ?_ | refine WP.block ?_ | (refine WP.region Tryd.tab ?_; simp -dsimp) | (refine WP.draw Tryd.tab Tryd.mixed ?_; simp -dsimp) | refine And.intro (by first | rfl | omega | decide | (simp; done) | (simp; omega) | (intro _ h; exact fcs_side h; done) | (intros; simp_all; done)) ?_)
            refine loopW.next (sD2 bs k n s l E (A1 ++ [(none, lo, hi)])) (Wk.lessE [13] (by simp [sD2, e1]) (by simp [sD2, rdE_snocN, nthL_eq, hGd, e5])) A2.length (by simp) ⟨A1 ++ [(none, lo, hi)], A2, by simp [hA12], rfl, rfl⟩
        | nil =>
          simp only [List.append_nil] at hA12
          subst hA12
          have hdl : ∀ g b e, g = candG (l.map V.num) → encR g = (b, e) → decL bs (l.map V.num) = if e = 0 ∧ bs = b then (g, 0) else (f0, 120) := fun g b e hg he => by
            rw [decL, ← hg, he]
            by_cases h1 : e = 0 ∧ bs = b
            · rw [if_pos h1, if_pos (by rw [h1.1, h1.2])]
            · rw [if_neg h1, if_neg (fun h2 => h1 ⟨(Prod.mk.inj h2).2, ((Prod.mk.inj h2).1).symm⟩)]
          have hd := hdl _ (encR (candG (l.map V.num))).1 (encR (candG (l.map V.num))).2 rfl rfl
          clear hdl
          rw [hd]
          rw [hcand] at h17 hg ⊢
          clear hd hcand
          generalize rdE (l.map V.num) E 4 (G, 0) = Q at *
          generalize hg2 : fup Q.1 54 (if Q.2 = 1 then 1 else 0) = g at *
          generalize encR g = R at *
          obtain ⟨c, e⟩ := R
          simp only at h17 ⊢
          refine WP.cond (b := false) (by simp) (fun h => by cases h) (fun _ => ?_)
          refine WP.exit ?_
          simp -dsimp
          repeat (first | refine WP.seq ?_ | refine WP.block ?_ | (refine WP.region Tryd.tab ?_; simp -dsimp [hg2]) | (refine WP.draw Tryd.tab Tryd.mixed ?_; simp -dsimp [hg2]) | refine And.intro (by first | rfl | omega | decide | (simp; done) | (simp; omega) | (intro _ h; exact fcs_side h; done) | (intros; simp_all; done)) ?_)
          refine vcStop.call0 Tryd.body17 h17 rfl rfl (by simp [fD]) ?_
          simp -dsimp
          repeat (first | refine WP.seq ?_ | refine WP.block ?_ | (refine WP.region Tryd.tab ?_; simp -dsimp) | (refine WP.draw Tryd.tab Tryd.mixed ?_; simp -dsimp) | refine And.intro (by first | rfl | omega | decide | (simp; done) | (simp; omega) | (intro _ h; exact fcs_side h; done) | (intros; simp_all; done)) ?_)
          refine vcStopG.call0 Tryd.body39 (fun _ => bytesEqual_ok bs c) rfl (fun _ => rfl) (fun _ => by simp) ?_
          simp -dsimp
          refine WP.cond (b := !decide (e = 0 ∧ bs = c)) (by simp) (fun hb => ?_) (fun hb => ?_)
          · have hb : ¬ (e = 0 ∧ bs = c) := by simpa only [Bool.not_eq_true', decide_eq_false_iff_not] using hb
            rw [if_neg hb]
            repeat (first | refine WP.seq ?_ | refine WP.block ?_ | (refine WP.region Tryd.tab ?_; simp -dsimp [zero47]) | (refine WP.draw Tryd.tab Tryd.mixed ?_; simp -dsimp [zero47]) | refine And.intro (by first | rfl | omega | decide | (simp; done) | (simp; omega) | (intro _ h; exact fcs_side h; done) | (intros; simp_all; done)) ?_)
            refine WP.ret (finQ.retE ?_)
            simp -dsimp [fD]
          · have hb : e = 0 ∧ bs = c := by simpa using hb
            rw [if_pos hb]
            refine WP.skip ?_
            simp -dsimp
            repeat (first | refine WP.seq ?_ | refine WP.block ?_ | (refine WP.region Tryd.tab ?_; simp -dsimp) | (refine WP.draw Tryd.tab Tryd.mixed ?_; simp -dsimp) | refine And.intro (by first | rfl | omega | decide | (simp; done) | (simp; omega) | (intro _ h; exact fcs_side h; done) | (intros; simp_all; done)) ?_)
            refine WP.ret (finQ.retE ?_)
            simp -dsimp [fD]
  · cases hbad
    simp only [V.items, show ¬ (20 : Int) = 0 by decide, if_false]
    refine Fun.of_wp (pn := noPn) Tryd.tab Tryd.func19 rfl fun β0 => ?_
    simp only [Tryd.f19]
    repeat (first | refine WP.seq ?_ | refine WP.block ?_ | (refine WP.region Tryd.tab ?_; simp -dsimp [zero47]) | (refine WP.draw Tryd.tab Tryd.mixed ?_; simp -dsimp [zero47]) | refine And.intro (by first | rfl | omega | decide | (simp; done) | (simp; omega) | (intro _ h; exact fcs_side h; done) | (intros; simp_all; done)) ?_)
    refine vcStop.call0 Tryd.body21 h18 rfl rfl (by simp) ?_
    simp -dsimp [V.d, V.cells]
    repeat (first | refine WP.seq ?_ | refine WP.block ?_ | (refine WP.region Tryd.tab ?_; simp -dsimp) | (refine WP.draw Tryd.tab Tryd.mixed ?_; simp -dsimp) | refine And.intro (by first | rfl | omega | decide | (simp; done) | (simp; omega) | (intro _ h; exact fcs_side h; done) | (intros; simp_all; done)) ?_)
    refine WP.cond (b := true) (by simp) (fun _ => ?_) (fun h => by cases h)
    repeat (first | refine WP.seq ?_ | refine WP.block ?_ | (refine WP.region Tryd.tab ?_; simp -dsimp) | (refine WP.draw Tryd.tab Tryd.mixed ?_; simp -dsimp) | refine And.intro (by first | rfl | omega | decide | (simp; done) | (simp; omega) | (intro _ h; exact fcs_side h; done) | (intros; simp_all; done)) ?_)
    refine WP.ret (finQ.retE ?_)
    simp -dsimp [fD]
end Go.Proofs.YtjfkeicmdaanbaaDoor
