/-
  Joined texts.
-/
import Derived.Test.YtjjaabidbeoomaaGreatDoorKWb
set_option linter.unusedVariables false
set_option linter.unusedSimpArgs false
set_option linter.unusedSectionVars false
/-
  Rulings: what the reference computes, in plain lists.
-/
set_option linter.unusedSimpArgs false
set_option linter.unusedVariables false
namespace Go.Proofs.YtjjaabidbeoomaaGreatDoor
open Go.Xe Go.RowKit

/-- Where the first one stands. -/
def stI (q : F → Bool) : List F → Nat → Int
  | [], _ => -1
  | f :: c, k => if q f = true then (k : Nat) else stI q c (k + 1)
theorem stI_none (q : F → Bool) : ∀ (c : List F) (k : Nat), (∀ f ∈ c, q f = false) → stI q c k = -1
  | [], _, _ => rfl
  | f :: c, k, h => by rw [stI, h f (by simp), if_neg (by simp), stI_none q c (k + 1) fun g hg => h g (by simp [hg])]
theorem stI_some (q : F → Bool) : ∀ (c : List F) (k : Nat), (∃ f ∈ c, q f = true) → ∃ j, ∃ h : j < c.length, stI q c k = ((k + j : Nat) : Int) ∧ q c[j] = true ∧ (c.filter q).head? = some c[j] ∧ ∀ i (hi : i < j), q (c[i]'(by omega)) = false
  | [], _, h => by obtain ⟨f, hf, _⟩ := h; cases hf
  | f :: c, k, h => by
    cases hq : q f with
    | true => exact ⟨0, by simp, by simp [stI, hq], hq, by simp [hq], fun i hi => absurd hi (by omega)⟩
    | false =>
      have h' : ∃ g ∈ c, q g = true := by
        obtain ⟨g, hg, h⟩ := h
        rcases List.mem_cons.1 hg with rfl | hg
        · rw [hq] at h; cases h
        · exact ⟨g, hg, h⟩
      obtain ⟨j, hj, h1, h2, h3, h4⟩ := stI_some q c (k + 1) h'
      refine ⟨j + 1, by simpa using hj, ?_, by simpa using h2, ?_, fun i hi => ?_⟩
      · rw [stI, hq, if_neg (by simp), h1]; congr 1; omega
      · rw [List.filter_cons, hq, if_neg (by simp), h3]; simp
      · cases i with
        | zero => simpa using hq
        | succ i => simpa using h4 i (by omega)
theorem stI_iff (q : F → Bool) (c : List F) : (stI q c 0 = -1 ∧ c.filter q = []) ∨ ∃ j, ∃ h : j < c.length, stI q c 0 = (j : Nat) ∧ (c.filter q).head? = some c[j] ∧ ∀ i (hi : i < j), q (c[i]'(by omega)) = false := by
  by_cases h : ∃ f ∈ c, q f = true
  · obtain ⟨j, hj, h1, _, h3, h4⟩ := stI_some q c 0 h
    exact .inr ⟨j, hj, by rw [h1]; congr 1; omega, h3, h4⟩
  · have h' : ∀ f ∈ c, q f = false := fun f hf => bool_no fun e => h ⟨f, hf, e⟩
    exact .inl ⟨stI_none q c 0 h', List.filter_eq_nil_iff.2 fun f hf e => by rw [h' f hf] at e; cases e⟩
theorem stI_neg (q : F → Bool) (c : List F) : decide (stI q c 0 < 0) = decide ((c.filter q).length = 0) := by
  rcases stI_iff q c with ⟨h1, h2⟩ | ⟨j, hj, h1, h2, _⟩
  · rw [h1, h2]; rfl
  · rw [h1]
    cases hX : c.filter q with
    | nil => rw [hX] at h2; cases h2
    | cons a r => simp
/-- Where the ruling in force stands. -/
def frI (c : List F) (n : Int) : Int := if susB (fileOf c n) = true then -1 else if 0 ≤ stI (isRul n 2) c 0 then stI (isRul n 2) c 0 else stI (isRul n 1) c 0
theorem frI_iff (c : List F) (n : Int) : (frI c n = -1 ∧ forceO (fileOf c n) = none) ∨ ∃ j, ∃ h : j < c.length, frI c n = (j : Nat) ∧ forceO (fileOf c n) = some c[j] := by
  rw [frI, forceO]
  split
  · exact .inl ⟨rfl, rfl⟩
  · rcases stI_iff (isRul n 2) c with ⟨h1, h2⟩ | ⟨j, hj, h1, h2, _⟩
    · rw [h1, if_neg (by omega)]
      simp only [fileOf, h2, List.head?_nil]
      rcases stI_iff (isRul n 1) c with ⟨h3, h4⟩ | ⟨j, hj, h3, h4, _⟩
      · exact .inl ⟨h3, by rw [h4]; rfl⟩
      · exact .inr ⟨j, hj, h3, h4⟩
    · rw [h1, if_pos (by omega)]
      simp only [fileOf, h2]
      exact .inr ⟨j, hj, rfl, rfl⟩
/-- The numbers of the cases of a kind, in order. -/
def kcS (k : Int) (a : List Int) (f : F) : List Int := if f 3 = k then insI (f 47 + f 39) a else a
def kcL (k : Int) (c : List F) : List Int := c.foldl (kcS k) []
theorem kcL_snoc (k : Int) (c : List F) (f : F) : kcL k (c ++ [f]) = kcS k (kcL k c) f := by rw [kcL, List.foldl_append]; rfl
theorem kcL_ok (k : Int) : ∀ (c : List F) (a : List Int), AscI a → AscI (c.foldl (kcS k) a) ∧ ∀ n, n ∈ c.foldl (kcS k) a ↔ n ∈ a ∨ ∃ f ∈ c, f 3 = k ∧ f 47 + f 39 = n
  | [], a, h => ⟨h, fun n => by simp⟩
  | f :: c, a, h => by
    have ha : AscI (kcS k a f) := by unfold kcS; split; exact insI_asc _ h; exact h
    obtain ⟨h1, h2⟩ := kcL_ok k c _ ha
    refine ⟨h1, fun n => ?_⟩
    rw [List.foldl_cons, h2, kcS]
    split
    · rename_i hk
      rw [insI_in]
      constructor
      · rintro ((h | h) | ⟨g, hg, h⟩)
        · exact .inr ⟨f, by simp, hk, h.symm⟩
        · exact .inl h
        · exact .inr ⟨g, by simp [hg], h⟩
      · rintro (h | ⟨g, hg, h⟩)
        · exact .inl (.inr h)
        · rcases List.mem_cons.1 hg with rfl | hg
          · exact .inl (.inl h.2.symm)
          · exact .inr ⟨g, hg, h⟩
    · rename_i hk
      constructor
      · rintro (h | ⟨g, hg, h⟩)
        · exact .inl h
        · exact .inr ⟨g, by simp [hg], h⟩
      · rintro (h | ⟨g, hg, h⟩)
        · exact .inl h
        · rcases List.mem_cons.1 hg with rfl | hg
          · exact absurd h.1 hk
          · exact .inr ⟨g, hg, h⟩
theorem insI_len (n : Int) : ∀ l : List Int, (insI n l).length ≤ l.length + 1
  | [] => by simp [insI]
  | m :: l => by
    rw [insI]
    have := insI_len n l
    split
    · simp
    · split
      · simp
      · simp; omega
theorem kcL_len (k : Int) : ∀ (c : List F) (a : List Int), (c.foldl (kcS k) a).length ≤ a.length + c.length
  | [], a => by simp
  | f :: c, a => by
    have h1 := kcL_len k c (kcS k a f)
    have h2 : (kcS k a f).length ≤ a.length + 1 := by unfold kcS; split; exact insI_len _ _; omega
    rw [List.foldl_cons, List.length_cons]; omega
theorem all_kc {c : List F} (hv : ∀ f ∈ c, vOk f) : (kcL 10 c).filterMap (fun n => forceO (fileOf c n)) = allO c := by
  obtain ⟨h1, h2⟩ := kcL_ok 10 c [] List.Pairwise.nil
  refine pw_eq (fun a b h1 h2 => by omega) (fm_asc (fun _ _ h => force_case h) h1) (allO_asc c) fun x => ?_
  rw [allO_iff, List.mem_filterMap]
  constructor
  · rintro ⟨n, _, h⟩
    have e := force_case h
    subst e; exact h
  · intro h
    have hx := force_mem h
    have hr : x 3 = 10 := by
      unfold forceO at h
      split at h
      · cases h
      · split at h
        · rename_i y hy
          cases h
          exact (rul_eq (List.mem_filter.1 (List.mem_of_head? hy)).2).1
        · exact (rul_eq (List.mem_filter.1 (List.mem_of_head? h)).2).1
    refine ⟨x 47, (h2 _).2 (.inr ⟨x, hx, hr, ?_⟩), h⟩
    have := (v_rul (hv x hx) hr).2.2
    omega
abbrev AscR (l : List F) : Prop := l.Pairwise fun a b => a 39 < b 39
theorem fm_ascR {g : Int → Option F} (h : ∀ m f, g m = some f → f 39 = m) : ∀ {l : List Int}, AscI l → AscR (l.filterMap g)
  | [], _ => List.Pairwise.nil
  | n :: l, ha => by
    obtain ⟨h1, h2⟩ := List.pairwise_cons.1 ha
    have ih := fm_ascR h h2
    rw [List.filterMap_cons]
    cases hg : g n with
    | none => exact ih
    | some f =>
      refine List.pairwise_cons.2 ⟨fun x hx => ?_, ih⟩
      obtain ⟨m, hm, hx⟩ := List.mem_filterMap.1 hx
      rw [h n f hg, h m x hx]
      exact h1 m hm
theorem rep_eq {n : Int} {f : F} (h : isRep n f = true) : f 3 = 8 ∧ f 39 = n := by
  simpa only [isRep, Bool.and_eq_true, decide_eq_true_eq] using h
theorem rep_kc {c : List F} (hv : ∀ f ∈ c, vOk f) : (kcL 8 c).filterMap (fun n => (c.filter (isRep n)).head?) = repO c := by
  obtain ⟨h1, h2⟩ := kcL_ok 8 c [] List.Pairwise.nil
  have hk : ∀ (m : Int) (f : F), (c.filter (isRep m)).head? = some f → f ∈ c ∧ f 3 = 8 ∧ f 39 = m := fun m f h => by
    obtain ⟨h1, h2⟩ := List.mem_filter.1 (List.mem_of_head? h)
    exact ⟨h1, rep_eq h2⟩
  refine pw_eq (fun a b h1 h2 => by omega) (fm_ascR (fun m f h => (hk m f h).2.2) h1) (fm_ascR (fun m f h => (hk m f h).2.2) (casesL_ok c).asc) fun x => ?_
  rw [List.mem_filterMap, repO, List.mem_filterMap]
  constructor
  · rintro ⟨n, _, h⟩
    obtain ⟨k1, k2, k3⟩ := hk n x h
    exact ⟨n, ((casesL_ok c).mem n).2 ⟨x, k1, by simp [caseF, k2, k3]⟩, h⟩
  · rintro ⟨n, _, h⟩
    have h : (c.filter (isRep n)).head? = some x := h
    obtain ⟨k1, k2, k3⟩ := hk n x h
    refine ⟨n, (h2 n).2 (.inr ⟨x, k1, k2, ?_⟩), h⟩
    have := (v_rep (hv x k1) k2).2
    omega
/-- Not the first of its instance. -/
def vdP (c : List F) (f : F) : Bool := decide (f 3 = 10) && c.any fun g => isRul (f 47) (f 48) g && decide (cmpF g f < 0)
theorem voidO_eq {c : List F} (hv : ∀ f ∈ c, vOk f) (ha : Asc c) : voidL c = c.filter (vdP c) := by
  have hL : Asc (voidL c) := (setF_canon (l := extN c (casesL c)) fun f hf => hv f (extN_in hf)).1
  refine asc_eq hL (asc_filter ha _) fun f => ?_
  have htail : ∀ {X : List F}, Asc X → (f ∈ X.tail ↔ f ∈ X ∧ ∃ g ∈ X, cmpF g f < 0) := by
    intro X hX
    cases X with
    | nil => simp
    | cons a r =>
      obtain ⟨h1, h2⟩ := List.pairwise_cons.1 hX
      constructor
      · intro h
        exact ⟨List.mem_cons_of_mem _ h, a, by simp, h1 f h⟩
      · rintro ⟨h, g, hg, hlt⟩
        rcases List.mem_cons.1 h with rfl | h
        · exfalso
          rcases List.mem_cons.1 hg with rfl | hg
          · exact cmp_irr _ hlt
          · exact cmp_asy hlt (h1 g hg)
        · exact h
  rw [voidL_mem hv, List.mem_filter, vdP, Bool.and_eq_true, decide_eq_true_eq, List.any_eq_true]
  constructor
  · rintro ⟨n, i, hi, hn, h⟩
    obtain ⟨h1, g, hg, hlt⟩ := (htail (asc_filter ha _)).1 h
    obtain ⟨h2, h3⟩ := List.mem_filter.1 h1
    obtain ⟨e1, e2, e3⟩ := rul_eq h3
    obtain ⟨h4, h5⟩ := List.mem_filter.1 hg
    exact ⟨h2, e1, g, h4, by rw [e2, e3, h5]; simpa using hlt⟩
  · rintro ⟨hf, h3, g, hg, h⟩
    rw [Bool.and_eq_true, decide_eq_true_eq] at h
    refine ⟨f 47, f 48, (v_rul (hv f hf) h3).2.1, ((casesL_ok c).mem _).2 ⟨f, hf, by simp [caseF, h3]⟩, (htail (asc_filter ha _)).2 ⟨List.mem_filter.2 ⟨hf, by simp [isRul, h3]⟩, g, List.mem_filter.2 ⟨hg, h.1⟩, h.2⟩⟩
/-- The reference's test: whether it stands elsewhere than the first. -/
theorem vd_at {c : List F} (ha : Asc c) {i : Nat} (hi : i < c.length) : vdP c c[i] = (decide (c[i] 3 = 10) && !decide (stI (isRul (c[i] 47) (c[i] 48)) c 0 = (i : Nat))) := by
  rw [vdP]
  by_cases h3 : c[i] 3 = 10
  · congr 1
    have hself : isRul (c[i] 47) (c[i] 48) c[i] = true := by simp [isRul, h3]
    obtain ⟨j, hj, h1, h2, _, h4⟩ := stI_some (isRul (c[i] 47) (c[i] 48)) c 0 ⟨c[i], List.getElem_mem hi, hself⟩
    rw [h1]
    have hji : j ≤ i := by
      refine Nat.le_of_not_lt fun h => ?_
      have := h4 i h
      rw [hself] at this; cases this
    have hpw := List.pairwise_iff_getElem.1 ha
    by_cases e : j = i
    · subst e
      have : (c.any fun g => isRul (c[j] 47) (c[j] 48) g && decide (cmpF g c[j] < 0)) = false := bool_no fun h => by
        obtain ⟨g, hg, h⟩ := List.any_eq_true.1 h
        rw [Bool.and_eq_true, decide_eq_true_eq] at h
        obtain ⟨k, hk, rfl⟩ := List.getElem_of_mem hg
        by_cases hkj : k < j
        · have := h4 k hkj; rw [h.1] at this; cases this
        · rcases Nat.lt_or_eq_of_le (Nat.le_of_not_lt hkj) with hlt | rfl
          · exact cmp_asy h.2 (hpw j k hj hk hlt)
          · exact cmp_irr _ h.2
      rw [this]; simp
    · have hlt : j < i := by omega
      have : (c.any fun g => isRul (c[i] 47) (c[i] 48) g && decide (cmpF g c[i] < 0)) = true := List.any_eq_true.2 ⟨c[j], List.getElem_mem hj, by rw [h2, Bool.true_and, decide_eq_true_eq]; exact hpw j i hj hi hlt⟩
      rw [this]
      simp; omega
  · simp [h3]

/-! ### the reference's canonical list -/
def lessP (f : F) (g : F) : Bool := decide (cmpF g f < 0)
/-- One more fact. -/
def insC (c : List F) (f : F) : List F :=
  let n := (c.takeWhile (lessP f)).length
  if (decide (n < c.length) && eqF (fat c n) f) = true then c else c.take n ++ [f] ++ c.drop n
def insV (c : List F) (f : F) : List F := if (numF f).2 = true then insC c f else c
def canR (l : List F) : List F := l.foldl insV []
theorem canR_snoc (l : List F) (f : F) : canR (l ++ [f]) = insV (canR l) f := by rw [canR, List.foldl_append]; rfl
theorem tw_split (f : F) : ∀ c : List F, (∀ g ∈ c.take (c.takeWhile (lessP f)).length, cmpF g f < 0) ∧ (c.takeWhile (lessP f)).length ≤ c.length ∧ ∀ h : (c.takeWhile (lessP f)).length < c.length, ¬ cmpF c[(c.takeWhile (lessP f)).length] f < 0
  | [] => ⟨by simp, by simp, fun h => by simp at h⟩
  | g :: c => by
    obtain ⟨h1, h2, h3⟩ := tw_split f c
    by_cases hg : cmpF g f < 0
    · have e : (g :: c).takeWhile (lessP f) = g :: c.takeWhile (lessP f) := by simp [lessP, hg]
      rw [e]
      simp only [List.length_cons, List.take_succ_cons, List.getElem_cons_succ]
      refine ⟨fun x hx => ?_, by omega, fun h => h3 (by omega)⟩
      rcases List.mem_cons.1 hx with rfl | hx
      · exact hg
      · exact h1 x hx
    · have e : (g :: c).takeWhile (lessP f) = [] := by simp [lessP, hg]
      rw [e]
      exact ⟨by simp, by simp, fun _ => hg⟩
theorem insC_ok {c : List F} (hv : ∀ f ∈ c, vOk f) (ha : Asc c) {f : F} (hf : vOk f) : Asc (insC c f) ∧ ∀ x, x ∈ insC c f ↔ x = f ∨ x ∈ c := by
  obtain ⟨h1, h2, h3⟩ := tw_split f c
  unfold insC
  generalize (c.takeWhile (lessP f)).length = n at h1 h2 h3
  have hsp : c.take n ++ c.drop n = c := List.take_append_drop n c
  by_cases he : (decide (n < c.length) && eqF (fat c n) f) = true
  · simp only [he, if_true]
    rw [Bool.and_eq_true, decide_eq_true_eq] at he
    refine ⟨ha, fun x => ⟨.inr, fun h => ?_⟩⟩
    rcases h with rfl | h
    · rw [← (eqF_iff (hv _ (fat_in he.1)).1 hf.1).1 he.2]; exact fat_in he.1
    · exact h
  · simp only [he]
    have hpd : Asc (c.take n ++ c.drop n) := by rw [hsp]; exact ha
    obtain ⟨p1, p2, p3⟩ := List.pairwise_append.1 hpd
    have hd : ∀ x ∈ c.drop n, cmpF f x < 0 := by
      intro x hx
      have hlt : n < c.length := Nat.lt_of_not_le fun h => by rw [List.drop_eq_nil_of_le h] at hx; cases hx
      rw [List.drop_eq_getElem_cons hlt] at hx p2
      obtain ⟨q1, q2⟩ := List.pairwise_cons.1 p2
      have hfn : fat c n = c[n] := by rw [fat, getD_at hlt]
      have hne : c[n] ≠ f := fun e => he (by rw [Bool.and_eq_true, decide_eq_true_eq, hfn]; exact ⟨hlt, (eqF_iff (hv _ (List.getElem_mem hlt)).1 hf.1).2 e⟩)
      have hn := h3 hlt
      have hz : cmpF c[n] f ≠ 0 := fun e => hne ((cmp_zero (hv _ (List.getElem_mem hlt)).1 hf.1 (hv _ (List.getElem_mem hlt)).2 hf.2).1 e)
      have hfn2 : cmpF f c[n] < 0 := by have := cmp_fact.anti c[n] f; omega
      rcases List.mem_cons.1 hx with rfl | hx
      · exact hfn2
      · have h5 := q1 x hx
        have h6 := cmp_fact.trans f c[n] x (by omega) (by omega)
        have h7 : cmpF f x ≠ 0 := fun e => by
          have := cmp_fact.same f x c[n] e
          have := cmp_fact.anti c[n] x
          omega
        omega
    refine ⟨?_, fun x => ?_⟩
    · rw [if_neg (by simp), List.append_assoc]
      refine List.pairwise_append.2 ⟨p1, List.pairwise_cons.2 ⟨hd, p2⟩, fun a ha b hb => ?_⟩
      rcases List.mem_cons.1 hb with rfl | hb
      · exact h1 a ha
      · exact p3 a ha b hb
    · rw [if_neg (by simp)]
      have : x ∈ c ↔ x ∈ c.take n ∨ x ∈ c.drop n := by rw [← List.mem_append, hsp]
      rw [this, List.mem_append, List.mem_append, List.mem_singleton]
      constructor
      · rintro ((h | h) | h)
        · exact .inr (.inl h)
        · exact .inl h
        · exact .inr (.inr h)
      · rintro (h | h | h)
        · exact .inl (.inr h)
        · exact .inl (.inl h)
        · exact .inr h
theorem insC_len (c : List F) (f : F) : (insC c f).length ≤ c.length + 1 := by
  unfold insC
  dsimp only
  split
  · omega
  · rw [List.length_append, List.length_append, List.length_take, List.length_drop, List.length_singleton]; omega
theorem canR_ok : ∀ (l A : List F) (c : List F), (∀ f ∈ A ++ l, fOk f) → Canon A c → Canon (A ++ l) (l.foldl insV c)
  | [], A, c, _, h => by rw [List.append_nil]; exact h
  | f :: l, A, c, hv, h => by
    have hvc : ∀ g ∈ c, vOk g := fun g hg => by
      obtain ⟨h1, h2⟩ := (h.mem g).1 hg
      exact ⟨hv g (by simp [h1]), h2⟩
    have hn : Canon (A ++ [f]) (insV c f) := by
      unfold insV
      by_cases hq : (numF f).2 = true
      · rw [if_pos hq]
        obtain ⟨k1, k2⟩ := insC_ok hvc h.asc (f := f) ⟨hv f (by simp), hq⟩
        refine ⟨k1, fun x => ?_⟩
        rw [k2, h.mem, List.mem_append, List.mem_singleton]
        constructor
        · rintro (rfl | ⟨h1, h2⟩)
          · exact ⟨.inr rfl, hq⟩
          · exact ⟨.inl h1, h2⟩
        · rintro ⟨h1 | h1, h2⟩
          · exact .inr ⟨h1, h2⟩
          · exact .inl h1
      · rw [if_neg hq]
        refine ⟨h.asc, fun x => ?_⟩
        rw [h.mem, List.mem_append, List.mem_singleton]
        constructor
        · rintro ⟨h1, h2⟩
          exact ⟨.inl h1, h2⟩
        · rintro ⟨h1 | rfl, h2⟩
          · exact ⟨h1, h2⟩
          · exact absurd h2 hq
    have := canR_ok l (A ++ [f]) (insV c f) (by simpa using hv) hn
    rw [List.append_assoc] at this
    exact this
theorem canR_eq {l : List F} (hv : ∀ f ∈ l, fOk f) : canR l = canF l := by
  have h := canR_ok l [] [] (by simpa using hv) ⟨List.Pairwise.nil, fun f => by simp⟩
  rw [List.nil_append] at h
  exact h.unique (canF_ok hv)
theorem canR_in {l : List F} (hv : ∀ f ∈ l, fOk f) (i : Nat) : ∀ f ∈ canR (l.take i), vOk f := by
  have hv' : ∀ f ∈ l.take i, fOk f := fun f hf => hv f (List.mem_of_mem_take hf)
  rw [canR_eq hv']
  exact canF_vOk hv'
theorem canR_len : ∀ (l : List F) (c : List F), (l.foldl insV c).length ≤ c.length + l.length
  | [], c => by simp
  | f :: l, c => by
    have h1 := canR_len l (insV c f)
    have h2 : (insV c f).length ≤ c.length + 1 := by unfold insV; split; exact insC_len _ _; omega
    rw [List.foldl_cons, List.length_cons]; omega
end Go.Proofs.YtjjaabidbeoomaaGreatDoor

/-
  Rulings: the reference's standing ruling, whether a case is suspended, and the ruling in force.
-/
set_option linter.unusedSimpArgs false
set_option linter.unusedVariables false
namespace Go.Proofs.YtjjaabidbeoomaaGreatDoor
open Go.Xe Go.RowKit

theorem fcs_gE (f : F) (o n k : Nat) (h : k < (fcs f o n).length) : (fcs f o n)[k] = fcell f (o + k) := by
  have h1 := fcs_get f n k (by simpa using h) o
  rw [List.getElem?_eq_getElem h] at h1
  exact Option.some.inj h1
def stS (c : List F) (n i : Int) (k : Nat) : St :=
  mkS 41 [(0, .d (slF c)), (1, .d (.v (.int .i64 n))), (2, .d (.v (.int .i64 i))), (7, .d (.v (.int .i64 (k : Nat))))] []
set_option maxRecDepth 10000 in
set_option maxHeartbeats 4000000 in
theorem standing_ok (c : List F) (n i : Int) (hl : c.length ≤ 100) : Fn0 Tryz.prog 30 [slF c, .v (.int .i64 n), .v (.int .i64 i)] (.v (.int .i64 (stI (isRul n i) c 0))) := by
  refine Fun.of_wp (pn := noPn) Tryz.tab Tryz.func30 rfl fun β0 => ?_
  simp only [Tryz.f30]
  repeat (first | refine wS ?_ | refine wB ?_ | ((first | refine wR ?_ | refine wD ?_); simp -dsimp) | refine aI ?_)
  refine WP.loopWk (fun m S => ∃ k, k + m = c.length ∧ stI (isRul n i) c 0 = stI (isRul n i) (c.drop k) k ∧ S = stS c n i k) c.length (S0 := stS c n i 0) (Wk.lessE [] (by simp [stS]) (by simp [stS])) ⟨0, by omega, rfl, rfl⟩ ?_
  rintro m _ ⟨k, hkm, hst, rfl⟩
  rw [hst]
  by_cases hk : k < c.length
  · have h1 := fsC_at hk
    rw [drop_fat hk]
    have e1 : IntKind.i64.wrap ((k : Int) + 1) = ((k + 1 : Nat) : Int) := by rw [IntWalk.i64_in _ (by omega)]; omega
    have hd := drop_fat hk
    rw [hd] at hst
    generalize fat c k = f at h1 hst
    rw [stS]
    simp -dsimp
    repeat (first | refine wS ?_ | refine wB ?_ | ((first | refine wR ?_ | refine wD ?_); simp -dsimp) | refine aI ?_)
    refine WP.cond (b := true) (by simp; omega) (fun _ => ?_) (fun h => by cases h)
    refine WP.skip ?_
    simp -dsimp
    refine WP.seq (WP.block ?_)
    repeat (first | refine wS ?_ | refine wB ?_ | ((first | refine wR ?_ | refine wD ?_); simp -dsimp [h1, fcs_gE]) | refine aI ?_)
    refine WP.cond (b := isRul n i f) (by simp [isRul, Bool.and_assoc]) (fun hb => ?_) (fun hb => ?_)
    · repeat (first | refine wS ?_ | refine wB ?_ | ((first | refine wR ?_ | refine wD ?_); simp -dsimp) | refine aI ?_)
      refine WP.ret (finQ.retE ?_)
      simp -dsimp [stI, hb]
    · refine WP.skip ?_
      simp -dsimp
      repeat (first | refine wS ?_ | refine wB ?_ | ((first | refine wR ?_ | refine wD ?_); simp -dsimp) | refine aI ?_)
      refine loopW.next (stS c n i (k + 1)) (Wk.lessE [] (by simp [stS, e1]) (by simp [stS])) (m - 1) (by omega) ⟨k + 1, by omega, by rw [stI, hb, if_neg (by simp)], rfl⟩
  · have hkc : k = c.length := by omega
    subst hkc
    rw [List.drop_length]
    rw [stS]
    simp -dsimp
    repeat (first | refine wS ?_ | refine wB ?_ | ((first | refine wR ?_ | refine wD ?_); simp -dsimp) | refine aI ?_)
    refine WP.cond (b := false) (by simp) (fun h => by cases h) (fun _ => ?_)
    refine WP.exit ?_
    simp -dsimp
    repeat (first | refine wS ?_ | refine wB ?_ | ((first | refine wR ?_ | refine wD ?_); simp -dsimp) | refine aI ?_)
    refine WP.ret (finQ.retE ?_)
    simp -dsimp [stI]
def spS (c : List F) (n : Int) (k : Nat) : St :=
  mkS 46 [(0, .d (slF c)), (1, .d (.v (.int .i64 n))), (5, .d (.v (.int .i64 (k : Nat))))] []
set_option maxRecDepth 10000 in
set_option maxHeartbeats 4000000 in
theorem refSusp_ok (c : List F) (n : Int) (hl : c.length ≤ 100) : Fn0 Tryz.prog 27 [slF c, .v (.int .i64 n)] (.v (.bool (susB (fileOf c n)))) := by
  have s1 := standing_ok c n 1 hl
  have s2 := standing_ok c n 2 hl
  have e : susB (fileOf c n) = (!(decide (stI (isRul n 1) c 0 < 0)) && (decide (stI (isRul n 2) c 0 < 0) && c.any (isApp n))) := by
    rw [susB_eq, stI_neg, stI_neg]
    cases c.any (isApp n) <;> cases c.filter (isRul n 1) <;> cases c.filter (isRul n 2) <;> simp
  generalize stI (isRul n 1) c 0 = a at s1 e
  generalize stI (isRul n 2) c 0 = b at s2 e
  refine Fun.of_wp (pn := noPn) Tryz.tab Tryz.func27 rfl fun β0 => ?_
  simp only [Tryz.f27]
  repeat (first | refine wS ?_ | refine wB ?_ | ((first | refine wR ?_ | refine wD ?_); simp -dsimp) | refine aI ?_)
  refine vcStop.call0 Tryz.body30 s1 rfl rfl (by simp) ?_
  simp -dsimp
  repeat (first | refine wS ?_ | refine wB ?_ | ((first | refine wR ?_ | refine wD ?_); simp -dsimp) | refine aI ?_)
  refine vcStopG.call0 Tryz.body30 (fun _ => s2) rfl (fun _ => rfl) (fun hg => by simp [hg]) ?_
  simp -dsimp
  repeat (first | refine wS ?_ | refine wB ?_ | ((first | refine wR ?_ | refine wD ?_); simp -dsimp) | refine aI ?_)
  refine WP.cond (b := decide (a < 0) || decide (0 ≤ b)) (by simp) (fun hb => ?_) (fun hb => ?_)
  · have : susB (fileOf c n) = false := by
      rw [e]
      rcases Bool.or_eq_true _ _ ▸ hb with h | h
      · rw [h]; rfl
      · have : ¬ b < 0 := by have := of_decide_eq_true h; omega
        simp [this]
    rw [this]
    repeat (first | refine wS ?_ | refine wB ?_ | ((first | refine wR ?_ | refine wD ?_); simp -dsimp) | refine aI ?_)
    refine WP.ret (finQ.retE ?_)
    simp -dsimp
  rw [Bool.or_eq_false_iff, decide_eq_false_iff_not, decide_eq_false_iff_not] at hb
  have e2 : susB (fileOf c n) = c.any (isApp n) := by
    have h2 : b < 0 := by omega
    rw [e]; simp [hb.1, h2]
  rw [e2]
  refine WP.skip ?_
  simp -dsimp
  repeat (first | refine wS ?_ | refine wB ?_ | ((first | refine wR ?_ | refine wD ?_); simp -dsimp) | refine aI ?_)
  refine WP.loopWk (fun m S => ∃ k, k + m = c.length ∧ c.any (isApp n) = (c.drop k).any (isApp n) ∧ S = spS c n k) c.length (S0 := spS c n 0) (Wk.lessE [] (by simp [spS]) (by simp [spS])) ⟨0, by omega, rfl, rfl⟩ ?_
  rintro m _ ⟨k, hkm, hst, rfl⟩
  rw [hst]
  by_cases hk : k < c.length
  · have h1 := fsC_at hk
    rw [drop_fat hk]
    have e1 : IntKind.i64.wrap ((k : Int) + 1) = ((k + 1 : Nat) : Int) := by rw [IntWalk.i64_in _ (by omega)]; omega
    have hd := drop_fat hk
    rw [hd] at hst
    generalize fat c k = f at h1 hst
    rw [spS]
    simp -dsimp
    repeat (first | refine wS ?_ | refine wB ?_ | ((first | refine wR ?_ | refine wD ?_); simp -dsimp) | refine aI ?_)
    refine WP.cond (b := true) (by simp; omega) (fun _ => ?_) (fun h => by cases h)
    refine WP.skip ?_
    simp -dsimp
    refine WP.seq (WP.block ?_)
    repeat (first | refine wS ?_ | refine wB ?_ | ((first | refine wR ?_ | refine wD ?_); simp -dsimp [h1, fcs_gE]) | refine aI ?_)
    refine WP.cond (b := isApp n f) (by simp [isApp]; cases decide (f 54 = 1) <;> simp) (fun hb => ?_) (fun hb => ?_)
    · repeat (first | refine wS ?_ | refine wB ?_ | ((first | refine wR ?_ | refine wD ?_); simp -dsimp) | refine aI ?_)
      refine WP.ret (finQ.retE ?_)
      simp -dsimp [hb]
    · refine WP.skip ?_
      simp -dsimp
      repeat (first | refine wS ?_ | refine wB ?_ | ((first | refine wR ?_ | refine wD ?_); simp -dsimp) | refine aI ?_)
      refine loopW.next (spS c n (k + 1)) (Wk.lessE [] (by simp [spS, e1]) (by simp [spS])) (m - 1) (by omega) ⟨k + 1, by omega, by rw [List.any_cons, hb, Bool.false_or], rfl⟩
  · have hkc : k = c.length := by omega
    subst hkc
    rw [List.drop_length]
    rw [spS]
    simp -dsimp
    repeat (first | refine wS ?_ | refine wB ?_ | ((first | refine wR ?_ | refine wD ?_); simp -dsimp) | refine aI ?_)
    refine WP.cond (b := false) (by simp) (fun h => by cases h) (fun _ => ?_)
    refine WP.exit ?_
    simp -dsimp
    repeat (first | refine wS ?_ | refine wB ?_ | ((first | refine wR ?_ | refine wD ?_); simp -dsimp) | refine aI ?_)
    refine WP.ret (finQ.retE ?_)
    simp -dsimp
set_option maxRecDepth 10000 in
theorem refForce_ok (c : List F) (n : Int) (hl : c.length ≤ 100) : Fn0 Tryz.prog 23 [slF c, .v (.int .i64 n)] (.v (.int .i64 (frI c n))) := by
  have s0 := refSusp_ok c n hl
  have s1 := standing_ok c n 1 hl
  have s2 := standing_ok c n 2 hl
  rw [frI]
  generalize susB (fileOf c n) = s at s0
  generalize stI (isRul n 1) c 0 = a at s1
  generalize stI (isRul n 2) c 0 = b at s2
  refine Fun.of_wp (pn := noPn) Tryz.tab Tryz.func23 rfl fun β0 => ?_
  simp only [Tryz.f23]
  repeat (first | refine wS ?_ | refine wB ?_ | ((first | refine wR ?_ | refine wD ?_); simp -dsimp) | refine aI ?_)
  refine vcStop.call0 Tryz.body27 s0 rfl rfl (by simp) ?_
  simp -dsimp
  repeat (first | refine wS ?_ | refine wB ?_ | ((first | refine wR ?_ | refine wD ?_); simp -dsimp) | refine aI ?_)
  refine WP.cond (b := s) (by simp) (fun hb => ?_) (fun hb => ?_)
  · rw [if_pos hb]
    repeat (first | refine wS ?_ | refine wB ?_ | ((first | refine wR ?_ | refine wD ?_); simp -dsimp) | refine aI ?_)
    refine WP.ret (finQ.retE ?_)
    simp -dsimp
  rw [if_neg (by simp [hb])]
  refine WP.skip ?_
  simp -dsimp
  repeat (first | refine wS ?_ | refine wB ?_ | ((first | refine wR ?_ | refine wD ?_); simp -dsimp) | refine aI ?_)
  refine vcStop.call0 Tryz.body30 s2 rfl rfl (by simp) ?_
  simp -dsimp
  repeat (first | refine wS ?_ | refine wB ?_ | ((first | refine wR ?_ | refine wD ?_); simp -dsimp) | refine aI ?_)
  refine WP.cond (b := decide (0 ≤ b)) (by simp) (fun hb => ?_) (fun hb => ?_)
  · rw [if_pos (of_decide_eq_true hb)]
    repeat (first | refine wS ?_ | refine wB ?_ | ((first | refine wR ?_ | refine wD ?_); simp -dsimp) | refine aI ?_)
    refine WP.ret (finQ.retE ?_)
    simp -dsimp
  rw [if_neg (of_decide_eq_false hb)]
  refine WP.skip ?_
  simp -dsimp
  repeat (first | refine wS ?_ | refine wB ?_ | ((first | refine wR ?_ | refine wD ?_); simp -dsimp) | refine aI ?_)
  refine vcStop.call0 Tryz.body30 s1 rfl rfl (by simp) ?_
  simp -dsimp
  repeat (first | refine wS ?_ | refine wB ?_ | ((first | refine wR ?_ | refine wD ?_); simp -dsimp) | refine aI ?_)
  refine WP.ret (finQ.retE ?_)
  simp -dsimp
end Go.Proofs.YtjjaabidbeoomaaGreatDoor
