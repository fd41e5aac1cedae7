/-
  Rulings: which one prevails, and what an appeal does, in plain lists.
-/
import Derived.Test.YtjjaabidbeoomaaDoorKQz
set_option linter.unusedSectionVars false
set_option linter.unusedSimpArgs false
set_option linter.unusedVariables false
namespace Go.Proofs.YtjjaabidbeoomaaDoor
open Go.Xe Go.RowKit

theorem head_min {c : List F} (ha : Asc c) {q : F → Bool} {g : F} (h : (c.filter q).head? = some g) : g ∈ c ∧ q g = true ∧ ∀ f ∈ c, q f = true → f = g ∨ cmpF g f < 0 := by
  have hf := asc_filter ha q
  obtain ⟨h1, h2⟩ := List.mem_filter.1 (List.mem_of_head? h)
  refine ⟨h1, h2, fun f hfc hq => ?_⟩
  have hm : f ∈ c.filter q := List.mem_filter.2 ⟨hfc, hq⟩
  cases hX : c.filter q with
  | nil => rw [hX] at hm; cases hm
  | cons x r =>
    rw [hX] at h hm hf
    cases h
    rcases List.mem_cons.1 hm with rfl | hm
    · exact .inl rfl
    · exact .inr ((List.pairwise_cons.1 hf).1 f hm)
theorem head_nil {c : List F} {q : F → Bool} (h : (c.filter q).head? = none) : ∀ f ∈ c, q f = false := fun f hf => by
  have h0 : c.filter q = [] := List.head?_eq_none_iff.1 h
  exact bool_no fun e => List.filter_eq_nil_iff.1 h0 f hf e
theorem force_min {c : List F} (hv : ∀ f ∈ c, vOk f) (ha : Asc c) {n : Int} {g : F} (h : forceO (fileOf c n) = some g) :
    g ∈ c ∧ g 3 = 10 ∧ g 47 = n ∧ ∀ f ∈ c, f 3 = 10 → f 47 = n → ¬ (g 48 < f 48) ∧ (f 48 = g 48 → f = g ∨ cmpF g f < 0) := by
  unfold forceO at h
  split at h
  · cases h
  · split at h
    · rename_i x hx
      cases h
      obtain ⟨h1, h2, h3⟩ := head_min ha hx
      obtain ⟨e1, e2, e3⟩ := rul_eq h2
      refine ⟨h1, e1, e2, fun f hf f3 fn => ⟨?_, fun fe => h3 f hf ?_⟩⟩
      · rcases (v_rul (hv f hf) f3).2.1 with e | e <;> omega
      · simp [isRul, f3, fn, fe, e3]
    · rename_i hx
      have hno := head_nil hx
      obtain ⟨h1, h2, h3⟩ := head_min ha h
      obtain ⟨e1, e2, e3⟩ := rul_eq h2
      refine ⟨h1, e1, e2, fun f hf f3 fn => ⟨?_, fun fe => h3 f hf ?_⟩⟩
      · rcases (v_rul (hv f hf) f3).2.1 with e | e
        · omega
        · have := hno f hf
          simp [isRul, f3, fn, e] at this
      · simp [isRul, f3, fn, fe, e3]
/-- The first of those that are looked for. -/
def pkS (p : F → Bool) (o f : F) : F := if (p f && (decide (o 3 = 0) || decide (cmpF f o < 0))) = true then f else o
def ownL (p : F → Bool) (l : List F) : F := l.foldl (pkS p) f0
theorem ownL_snoc (p : F → Bool) (l : List F) (f : F) : ownL p (l ++ [f]) = pkS p (ownL p l) f := by rw [ownL, List.foldl_append]; rfl
def OwnQ (p : F → Bool) (l : List F) (o : F) : Prop := (o = f0 ∧ ∀ f ∈ l, p f = false) ∨ (o ∈ l ∧ p o = true ∧ ∀ f ∈ l, p f = true → ¬ cmpF f o < 0)
theorem own_step {p : F → Bool} (hp : ∀ f, p f = true → f 3 ≠ 0) {A : List F} {o : F} (h : OwnQ p A o) (f : F) : OwnQ p (A ++ [f]) (pkS p o f) := by
  cases hpf : p f with
  | false =>
    have e : pkS p o f = o := by simp [pkS, hpf]
    rw [e]
    rcases h with ⟨h1, h2⟩ | ⟨h1, h2, h3⟩
    · exact .inl ⟨h1, fun x hx => by
        rcases List.mem_append.1 hx with hx | hx
        · exact h2 x hx
        · rw [List.mem_singleton] at hx; subst hx; exact hpf⟩
    · exact .inr ⟨List.mem_append.2 (.inl h1), h2, fun x hx hq => by
        rcases List.mem_append.1 hx with hx | hx
        · exact h3 x hx hq
        · rw [List.mem_singleton] at hx; subst hx; rw [hpf] at hq; cases hq⟩
  | true =>
    rcases h with ⟨h1, h2⟩ | ⟨h1, h2, h3⟩
    · subst h1
      have e : pkS p f0 f = f := by simp [pkS, hpf, f0]
      rw [e]
      exact .inr ⟨by simp, hpf, fun x hx hq => by
        rcases List.mem_append.1 hx with hx | hx
        · rw [h2 x hx] at hq; cases hq
        · rw [List.mem_singleton] at hx; subst hx; exact cmp_irr _⟩
    · have ho := hp o h2
      by_cases hc : cmpF f o < 0
      · have e : pkS p o f = f := by simp [pkS, hpf, hc]
        rw [e]
        refine .inr ⟨by simp, hpf, fun x hx hq hlt => ?_⟩
        rcases List.mem_append.1 hx with hx | hx
        · have h4 := h3 x hx hq
          have h5 := cmp_fact.trans x f o (by omega) (by omega)
          have h6 : cmpF x o = 0 := by omega
          have h7 := cmp_fact.same x o f h6
          have h8 := cmp_fact.anti f o
          omega
        · rw [List.mem_singleton] at hx; subst hx; exact cmp_irr _ hlt
      · have e : pkS p o f = o := by simp [pkS, hpf, ho, hc]
        rw [e]
        refine .inr ⟨List.mem_append.2 (.inl h1), h2, fun x hx hq => ?_⟩
        rcases List.mem_append.1 hx with hx | hx
        · exact h3 x hx hq
        · rw [List.mem_singleton] at hx; subst hx; exact hc
theorem own_spec {p : F → Bool} (hp : ∀ f, p f = true → f 3 ≠ 0) : ∀ (l A : List F) (o : F), OwnQ p A o → OwnQ p (A ++ l) (l.foldl (pkS p) o)
  | [], A, o, h => by rw [List.append_nil]; exact h
  | f :: l, A, o, h => by
    have := own_spec hp l (A ++ [f]) (pkS p o f) (own_step hp h f)
    rw [List.append_assoc] at this
    exact this
abbrev ruL (f : F) : List Int := [f 47, f 48, f 49, f 50, f 51, f 52]
/-- A valid fact with the ruling of g. -/
def pkP (g f : F) : Bool := decide (f 3 = 10) && (decide (ruL f = ruL g) && (numF f).2)
theorem own_force {l : List F} (hv : ∀ f ∈ l, fOk f) {n : Int} {g : F} (h : forceO (fileOf (canF l) n) = some g) : ownL (pkP g) l = g := by
  have hcan := canF_ok hv
  have hcv : ∀ f ∈ canF l, vOk f := canF_vOk hv
  obtain ⟨h1, h2, h3, h4⟩ := force_min hcv hcan.asc h
  obtain ⟨h5, h6⟩ := (hcan.mem g).1 h1
  have hpg : pkP g g = true := by simp [pkP, h2, h6]
  have hs := own_spec (p := pkP g) (fun f hf e => by simp [pkP, e] at hf) l [] f0 (.inl ⟨rfl, fun _ h => by cases h⟩)
  rw [List.nil_append] at hs
  change OwnQ (pkP g) l (ownL (pkP g) l) at hs
  generalize ownL (pkP g) l = o at hs
  rcases hs with ⟨_, hs⟩ | ⟨ho, hpo, hmin⟩
  · rw [hs g h5] at hpg; cases hpg
  · have hpo' := hpo
    simp only [pkP, Bool.and_eq_true, decide_eq_true_eq, ruL, List.cons.injEq] at hpo'
    have hoc : o ∈ canF l := (hcan.mem o).2 ⟨ho, hpo'.2.2⟩
    rcases (h4 o hoc hpo'.1 (by rw [hpo'.2.1.1, h3])).2 hpo'.2.1.2.1 with e | e
    · exact e
    · exact absurd e (hmin g h5 hpg)
/-- No valid fact of the case of g prevails over it. -/
def badP (g f : F) : Bool := decide (g 48 < f 48) || (decide (f 48 = g 48) && decide (cmpF f g < 0))
theorem not_bad {l : List F} (hv : ∀ f ∈ l, fOk f) {n : Int} {g : F} (h : forceO (fileOf (canF l) n) = some g) {f : F} (hf : f ∈ l) (h3 : f 3 = 10) (hn : f 47 = g 47) (hq : (numF f).2 = true) : badP g f = false := by
  have hcan := canF_ok hv
  obtain ⟨_, _, h5, h4⟩ := force_min (canF_vOk hv) hcan.asc h
  obtain ⟨h6, h7⟩ := h4 f ((hcan.mem f).2 ⟨hf, hq⟩) h3 (by rw [hn, h5])
  have h8 : ¬ (f 48 = g 48 ∧ cmpF f g < 0) := fun ⟨e, hc⟩ => by
    rcases h7 e with e | e
    · rw [e] at hc; exact cmp_irr _ hc
    · exact cmp_asy hc e
  simp only [badP, Bool.or_eq_false_iff, decide_eq_false_iff_not, Bool.and_eq_false_iff]
  refine ⟨h6, ?_⟩
  by_cases e : f 48 = g 48
  · exact .inr fun hc => h8 ⟨e, hc⟩
  · exact .inl e
theorem susB_eq (c : List F) (n : Int) : susB (fileOf c n) = (c.any (isApp n) && (decide (0 < (c.filter (isRul n 1)).length) && decide ((c.filter (isRul n 2)).length = 0))) := rfl
/-- A case with a ruling has none in force exactly if it is suspended. -/
theorem rul_held {l : List F} (hv : ∀ f ∈ l, fOk f) {f : F} (hf : f ∈ l) (h3 : f 3 = 10) (hq : (numF f).2 = true) :
    (forceO (fileOf (canF l) (f 47))).isSome = (!susB (fileOf (canF l) (f 47))) ∧ (susB (fileOf (canF l) (f 47)) && decide (f 48 = 2)) = false := by
  have hcan := canF_ok hv
  have hfc := (hcan.mem f).2 ⟨hf, hq⟩
  have hi := (v_rul (canF_vOk hv f hfc) h3).2.1
  generalize canF l = c at hfc
  have hm : ∀ i, f 48 = i → f ∈ c.filter (isRul (f 47) i) := fun i e => List.mem_filter.2 ⟨hfc, by simp [isRul, h3, e]⟩
  unfold forceO
  cases hs : susB (fileOf c (f 47)) with
  | true =>
    refine ⟨rfl, ?_⟩
    rw [Bool.true_and, decide_eq_false_iff_not]
    intro e
    have hm2 := hm 2 e
    rw [susB_eq, Bool.and_eq_true, Bool.and_eq_true] at hs
    rw [List.eq_nil_of_length_eq_zero (of_decide_eq_true hs.2.2)] at hm2
    cases hm2
  | false =>
    refine ⟨?_, rfl⟩
    rw [if_neg (by simp)]
    simp only [fileOf, Bool.not_false]
    cases h2 : (c.filter (isRul (f 47) 2)).head? with
    | some x => rfl
    | none =>
      rcases hi with e | e
      · have hm1 := hm 1 e
        cases h1 : c.filter (isRul (f 47) 1) with
        | nil => rw [h1] at hm1; cases hm1
        | cons x r => rfl
      · have := head_nil h2 f hfc
        simp [isRul, h3, e] at this

/-! ### what an appeal does -/
theorem pw_eq {α : Type} {R : α → α → Prop} (asy : ∀ a b, R a b → ¬ R b a) : ∀ {A B : List α}, A.Pairwise R → B.Pairwise R → (∀ x, x ∈ A ↔ x ∈ B) → A = B
  | [], [], _, _, _ => rfl
  | [], b :: B, _, _, h => absurd ((h b).2 (by simp)) (by simp)
  | a :: A, [], _, _, h => absurd ((h a).1 (by simp)) (by simp)
  | a :: A, b :: B, ha, hb, h => by
    obtain ⟨ha1, ha2⟩ := List.pairwise_cons.1 ha
    obtain ⟨hb1, hb2⟩ := List.pairwise_cons.1 hb
    have e : a = b := by
      rcases List.mem_cons.1 ((h a).1 (by simp)) with e | h1
      · exact e
      · rcases List.mem_cons.1 ((h b).2 (by simp)) with e | h2
        · exact e.symm
        · exact absurd (ha1 b h2) (asy _ _ (hb1 a h1))
    subst e
    rw [pw_eq asy ha2 hb2 fun x => ?_]
    constructor
    · intro hx
      rcases List.mem_cons.1 ((h x).1 (by simp [hx])) with e | h1
      · subst e; exact absurd (ha1 x hx) fun hr => asy _ _ hr hr
      · exact h1
    · intro hx
      rcases List.mem_cons.1 ((h x).2 (by simp [hx])) with e | h1
      · subst e; exact absurd (hb1 x hx) fun hr => asy _ _ hr hr
      · exact h1
abbrev AscC (l : List F) : Prop := l.Pairwise fun a b => a 47 < b 47
theorem fm_asc {g : Int → Option F} (h : ∀ m f, g m = some f → f 47 = m) : ∀ {l : List Int}, AscI l → AscC (l.filterMap g)
  | [], _ => List.Pairwise.nil
  | n :: l, ha => by
    obtain ⟨h1, h2⟩ := List.pairwise_cons.1 ha
    have ih := fm_asc h h2
    rw [List.filterMap_cons]
    cases hg : g n with
    | none => exact ih
    | some f =>
      refine List.pairwise_cons.2 ⟨fun x hx => ?_, ih⟩
      obtain ⟨m, hm, hx⟩ := List.mem_filterMap.1 hx
      rw [h n f hg, h m x hx]
      exact h1 m hm
theorem allO_asc (c : List F) : AscC (allO c) := fm_asc (fun _ _ h => force_case h) (casesL_ok c).asc
theorem allO_iff (c : List F) (f : F) : f ∈ allO c ↔ forceO (fileOf c (f 47)) = some f := by
  constructor
  · intro h
    obtain ⟨n, _, hn⟩ := List.mem_filterMap.1 h
    have e := force_case hn
    subst e
    exact hn
  · intro h
    refine List.mem_filterMap.2 ⟨f 47, ((casesL_ok c).mem _).2 ⟨f, force_mem h, ?_⟩, h⟩
    unfold forceO at h
    split at h
    · cases h
    · split at h
      · rename_i x hx
        cases h
        exact rul_case (List.mem_filter.1 (List.mem_of_head? hx)).2
      · exact rul_case (List.mem_filter.1 (List.mem_of_head? h)).2
theorem allO_eq {c c' : List F} (h : ∀ n, forceO (fileOf c n) = forceO (fileOf c' n)) : allO c = allO c' :=
  pw_eq (fun a b h1 h2 => by omega) (allO_asc c) (allO_asc c') fun x => by rw [allO_iff, allO_iff, h]
theorem allO_len1 {c c' : List F} {n : Int} {g : F} (h : ∀ m, m ≠ n → forceO (fileOf c' m) = forceO (fileOf c m)) (h0 : forceO (fileOf c' n) = none) (h1 : forceO (fileOf c n) = some g) : (allO c).length = (allO c').length + 1 := by
  have e : allO c' = (allO c).filter fun f => !decide (f 47 = n) := by
    refine pw_eq (fun a b h1 h2 => by omega) (allO_asc c') ((allO_asc c).sublist List.filter_sublist) fun x => ?_
    rw [allO_iff, List.mem_filter, allO_iff, Bool.not_eq_true', decide_eq_false_iff_not]
    by_cases hx : x 47 = n
    · rw [hx, h0]; simp
    · rw [h _ hx]; simp [hx]
  rw [e]
  have hg : g ∈ allO c := (allO_iff c g).2 (by rw [force_case h1]; exact h1)
  have key : ∀ {l : List F}, AscC l → g ∈ l → l.length = (l.filter fun f => !decide (f 47 = n)).length + 1 := by
    intro l
    induction l with
    | nil => intro _ h; cases h
    | cons a l ih =>
      intro ha hm
      obtain ⟨ha1, ha2⟩ := List.pairwise_cons.1 ha
      have hgn := force_case h1
      by_cases hag : a 47 = n
      · have hf : (l.filter fun f => !decide (f 47 = n)) = l := List.filter_eq_self.2 fun x hx => by
          have := ha1 x hx
          simp; omega
        rw [List.filter_cons, if_neg (by simp [hag]), hf]
        rfl
      · have hgl : g ∈ l := by
          rcases List.mem_cons.1 hm with e | e
          · subst e; exact absurd hgn hag
          · exact e
        rw [List.filter_cons, if_pos (by simp [hag]), List.length_cons, List.length_cons, ← ih ha2 hgl]
  exact key (allO_asc c) hg
section
variable {l : List F} {f : F} (hv : ∀ x ∈ l, fOk x) (hf : vOk f) (h3 : f 3 = 11)
include hv hf h3
theorem ad_can : Canon (l ++ [f]) (canF (l ++ [f])) := canF_ok fun x hx => by
  rcases List.mem_append.1 hx with hx | hx
  · exact hv x hx
  · rw [List.mem_singleton] at hx; subst hx; exact hf.1
theorem ad_mem (x : F) : x ∈ canF (l ++ [f]) ↔ x ∈ canF l ∨ x = f := by
  rw [(ad_can hv hf h3).mem, (canF_ok hv).mem, List.mem_append, List.mem_singleton]
  constructor
  · rintro ⟨h | h, h2⟩
    · exact .inl ⟨h, h2⟩
    · exact .inr h
  · rintro (⟨h, h2⟩ | h)
    · exact ⟨.inl h, h2⟩
    · subst h; exact ⟨.inr rfl, hf.2⟩
theorem ad_filter {q : F → Bool} (hq : q f = false) : (canF (l ++ [f])).filter q = (canF l).filter q := by
  refine asc_eq (asc_filter (ad_can hv hf h3).asc q) (asc_filter (canF_ok hv).asc q) fun x => ?_
  rw [List.mem_filter, List.mem_filter, ad_mem hv hf h3]
  constructor
  · rintro ⟨h | h, h2⟩
    · exact ⟨h, h2⟩
    · subst h; rw [hq] at h2; cases h2
  · rintro ⟨h, h2⟩
    exact ⟨.inl h, h2⟩
theorem ad_any (q : F → Bool) : (canF (l ++ [f])).any q = ((canF l).any q || q f) := by
  rw [Bool.eq_iff_iff, Bool.or_eq_true, List.any_eq_true, List.any_eq_true]
  constructor
  · rintro ⟨x, hx, h⟩
    rcases (ad_mem hv hf h3 x).1 hx with hx | rfl
    · exact .inl ⟨x, hx, h⟩
    · exact .inr h
  · rintro (⟨x, hx, h⟩ | h)
    · exact ⟨x, (ad_mem hv hf h3 x).2 (.inl hx), h⟩
    · exact ⟨f, (ad_mem hv hf h3 f).2 (.inr rfl), h⟩
theorem ad_force (n : Int) : forceO (fileOf (canF (l ++ [f])) n) = frc ((canF l).any (isApp n) || isApp n f) ((canF l).filter (isRul n 1)) ((canF l).filter (isRul n 2)) := by
  rw [forceO_frc, ad_any hv hf h3, ad_filter hv hf h3 (by simp [isRul, h3]), ad_filter hv hf h3 (by simp [isRul, h3])]
theorem ad_other {n : Int} (hn : n ≠ f 53) : forceO (fileOf (canF (l ++ [f])) n) = forceO (fileOf (canF l) n) := by
  rw [ad_force hv hf h3, forceO_frc, show isApp n f = false by simp [isApp, Ne.symm hn], Bool.or_false]
/-- An appeal that has no effect. -/
theorem ad_same (h : f 54 ≠ 1 ∨ forceO (fileOf (canF l) (f 53)) = none ∨ ∃ g, forceO (fileOf (canF l) (f 53)) = some g ∧ g 48 = 2) :
    forceO (fileOf (canF (l ++ [f])) (f 53)) = forceO (fileOf (canF l) (f 53)) ∧ allO (canF (l ++ [f])) = allO (canF l) := by
  have key : forceO (fileOf (canF (l ++ [f])) (f 53)) = forceO (fileOf (canF l) (f 53)) := by
    rw [ad_force hv hf h3]
    rw [forceO_frc] at h ⊢
    generalize (canF l).any (isApp (f 53)) = ap at h
    rcases h with h | h | ⟨g, h, h2⟩
    · rw [show isApp (f 53) f = false by simp [isApp, h], Bool.or_false]
    · revert h
      cases (canF l).filter (isRul (f 53) 1) <;> cases (canF l).filter (isRul (f 53) 2) <;> cases ap <;> cases isApp (f 53) f <;> simp [frc]
    · cases hY : (canF l).filter (isRul (f 53) 2) with
      | nil =>
        rw [hY] at h
        exfalso
        have hg : ((canF l).filter (isRul (f 53) 1)).head? = some g := by
          unfold frc at h
          split at h
          · cases h
          · exact h
        obtain ⟨_, _, h5⟩ := rul_eq (List.mem_filter.1 (List.mem_of_head? hg)).2
        omega
      | cons a r => simp [frc]
  refine ⟨key, allO_eq fun n => ?_⟩
  by_cases hn : n = f 53
  · subst hn; exact key
  · exact ad_other hv hf h3 hn
/-- An appeal that takes a ruling away. -/
theorem ad_takes {g : F} (hs : f 54 = 1) (hg : forceO (fileOf (canF l) (f 53)) = some g) (h2 : g 48 ≠ 2) :
    forceO (fileOf (canF (l ++ [f])) (f 53)) = none ∧ susB (fileOf (canF (l ++ [f])) (f 53)) = true ∧ (allO (canF l)).length = (allO (canF (l ++ [f]))).length + 1 := by
  have h1 : isApp (f 53) f = true := by simp [isApp, h3, hs]
  have hY : (canF l).filter (isRul (f 53) 2) = [] := by
    cases hY : (canF l).filter (isRul (f 53) 2) with
    | nil => rfl
    | cons a r =>
      rw [forceO_frc, hY] at hg
      have e : a = g := by
        unfold frc at hg
        split at hg
        · cases hg
        · exact Option.some.inj hg
      subst e
      have := (rul_eq (List.mem_filter.1 (show a ∈ (canF l).filter (isRul (f 53) 2) by rw [hY]; simp)).2).2.2
      exact absurd this h2
  have hX : 0 < ((canF l).filter (isRul (f 53) 1)).length := by
    cases hX : (canF l).filter (isRul (f 53) 1) with
    | nil =>
      rw [forceO_frc, hY, hX] at hg
      unfold frc at hg
      split at hg <;> cases hg
    | cons a r => simp
  have hk : forceO (fileOf (canF (l ++ [f])) (f 53)) = none := by
    rw [ad_force hv hf h3, h1, hY, frc]
    simp [hX]
  refine ⟨hk, ?_, allO_len1 (fun m hm => ad_other hv hf h3 hm) hk hg⟩
  rw [susB_eq, ad_any hv hf h3, h1, ad_filter hv hf h3 (by simp [isRul, h3]), ad_filter hv hf h3 (by simp [isRul, h3]), hY]
  simp [hX]
end
end Go.Proofs.YtjjaabidbeoomaaDoor
