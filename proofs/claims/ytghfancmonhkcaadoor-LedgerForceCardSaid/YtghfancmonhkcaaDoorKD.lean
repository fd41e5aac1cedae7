/-
  Joined texts.
-/
import Derived.Test.YtghfancmonhkcaaDoorKKs
import Derived.Test.YtghfancmonhkcaaDoorKA
set_option linter.unusedVariables false
set_option linter.unusedSimpArgs false
set_option linter.unusedSectionVars false
/-
  Ledgers: the facts of sane's examples.
-/
set_option linter.unusedSimpArgs false
set_option linter.unusedVariables false
namespace Go.Proofs.YtghfancmonhkcaaDoor
open Go.Xe Go.RowKit

def sA : F := shF 2 5 10
def sB2 : F := shF 2 5 20
def voF (c : Int) : F := fun i => if i = 0 then c else if i = 1 then 1 else if i = 2 then 30 else if i = 3 then 13 else if i = 55 then 2 else if i = 56 then 5 else 0
theorem voF_ok {c : Int} (h1 : isI c) : fOk (voF c) := by
  refine ⟨fun i => ?_, .inl rfl, fun i hi => ?_⟩
  · unfold voF
    split
    · exact h1
    · (repeat' split) <;> first | exact isI0 | (unfold isI; omega)
  · unfold voF
    rw [if_neg (by omega), if_neg (by omega), if_neg (by omega), if_neg (by omega), if_neg (by omega), if_neg (by omega)]
theorem sA_num : (numF sA).2 = true := by decide
theorem sB_num : (numF sB2).2 = true := by decide
theorem sC_num : (numF (voF 3)).2 = true := by decide
theorem sD_num : (numF (voF 2)).2 = true := by decide
theorem sAB : cmpF sA sB2 < 0 := by decide
/-- In force, by reckoning. -/
def forceD (l : List Sg) (t : Int) (f : F) : Bool := firstD l t f && !decide (f 3 = 13) && l.all fun p => !(decide (p.1 3 = 13) && firstD l t p.1 && decide (p.1 0 ≤ f 0) && (decide (p.1 55 = f 0) && decide (p.1 56 = f 1)))
theorem forceD_iff {l : List Sg} (hv : ∀ p ∈ l, sgOk p) (t : Int) (f : F) : f ∈ viewL t (valL l) ↔ (∃ p ∈ l, p.1 = f) ∧ forceD l t f = true := by
  rw [force_iff hv, forceD, Bool.and_eq_true, Bool.and_eq_true, firstD_iff, and_assoc]
  refine and_congr Iff.rfl (and_congr Iff.rfl (and_congr (by simp) ?_))
  rw [List.all_eq_true]
  refine forall_congr' fun p => forall_congr' fun hp => ?_
  rw [Bool.not_eq_true', ← Bool.not_eq_true, Bool.and_eq_true, Bool.and_eq_true, Bool.and_eq_true, Bool.and_eq_true, firstD_iff]
  simp only [decide_eq_true_eq, refF, Prod.mk.injEq, and_assoc]
theorem list_one {L : List F} {a : F} (hp : L.Pairwise fun a b => cmpF a b < 0) (h : ∀ x, x ∈ L ↔ x = a) : L = [a] := by
  have irr : ∀ a : F, ¬ cmpF a a < 0 := fun a h => by have := cmp_fact.anti a a; omega
  match L, hp, h with
  | [], _, h => exact absurd ((h a).2 rfl) (by simp)
  | [x], _, h => rw [(h x).1 (by simp)]
  | x :: y :: r, hp, h =>
    have hx := (h x).1 (by simp)
    have hy := (h y).1 (by simp)
    have := (List.pairwise_cons.1 hp).1 y (by simp)
    rw [hx, hy] at this
    exact absurd this (irr a)
theorem list_none {L : List F} (h : ∀ x, x ∉ L) : L = [] := List.eq_nil_iff_forall_not_mem.2 h
theorem isI_small {n : Int} (h : 0 ≤ n ∧ n ≤ 100) : isI n := by unfold isI; omega
theorem sA_ok : fOk sA := shF_ok (isI_small (by omega)) (isI_small (by omega)) (isI_small (by omega))
theorem sB_ok : fOk sB2 := shF_ok (isI_small (by omega)) (isI_small (by omega)) (isI_small (by omega))
theorem vo3_ok : fOk (voF 3) := voF_ok (isI_small (by omega))
theorem vo2_ok : fOk (voF 2) := voF_ok (isI_small (by omega))
theorem three_ok {a b c : F} (ha : fOk a) (hb : fOk b) (hc : fOk c) : ∀ p ∈ rawL [a, b, c], sgOk p := rawL_ok fun f hf => by
  simp only [List.mem_cons, List.not_mem_nil, or_false] at hf
  rcases hf with rfl | rfl | rfl <;> assumption
theorem view1 : viewL 40 (valL (rawL [sB2, sA, voF 3])) = [sA] := by
  have hv := three_ok sB_ok sA_ok vo3_ok
  refine list_one (view_asc hv 40) fun x => ?_
  rw [forceD_iff hv]
  constructor
  · rintro ⟨⟨p, hp, rfl⟩, h⟩
    simp only [rawL, List.map_cons, List.map_nil, List.mem_cons, List.not_mem_nil, or_false] at hp
    rcases hp with rfl | rfl | rfl
    · exact absurd (h.symm.trans (show forceD (rawL [sB2, sA, voF 3]) 40 sB2 = false by kernel_rfl)) (by decide)
    · rfl
    · exact absurd (h.symm.trans (show forceD (rawL [sB2, sA, voF 3]) 40 (voF 3) = false by kernel_rfl)) (by decide)
  · rintro rfl
    exact ⟨⟨(sA, zs), by simp [rawL], rfl⟩, by kernel_rfl⟩
theorem view2 : viewL 40 (valL (rawL [sB2, sA, voF 2])) = [] := by
  have hv := three_ok sB_ok sA_ok vo2_ok
  refine list_none fun x => ?_
  rw [forceD_iff hv]
  rintro ⟨⟨p, hp, rfl⟩, h⟩
  simp only [rawL, List.map_cons, List.map_nil, List.mem_cons, List.not_mem_nil, or_false] at hp
  rcases hp with rfl | rfl | rfl
  · exact absurd (h.symm.trans (show forceD (rawL [sB2, sA, voF 2]) 40 sB2 = false by kernel_rfl)) (by decide)
  · exact absurd (h.symm.trans (show forceD (rawL [sB2, sA, voF 2]) 40 sA = false by kernel_rfl)) (by decide)
  · exact absurd (h.symm.trans (show forceD (rawL [sB2, sA, voF 2]) 40 (voF 2) = false by kernel_rfl)) (by decide)
theorem view3 : viewL 29 (valL (rawL [sB2, sA, voF 2])) = [sA] := by
  have hv := three_ok sB_ok sA_ok vo2_ok
  refine list_one (view_asc hv 29) fun x => ?_
  rw [forceD_iff hv]
  constructor
  · rintro ⟨⟨p, hp, rfl⟩, h⟩
    simp only [rawL, List.map_cons, List.map_nil, List.mem_cons, List.not_mem_nil, or_false] at hp
    rcases hp with rfl | rfl | rfl
    · exact absurd (h.symm.trans (show forceD (rawL [sB2, sA, voF 2]) 29 sB2 = false by kernel_rfl)) (by decide)
    · rfl
    · exact absurd (h.symm.trans (show forceD (rawL [sB2, sA, voF 2]) 29 (voF 2) = false by kernel_rfl)) (by decide)
  · rintro rfl
    exact ⟨⟨(sA, zs), by simp [rawL], rfl⟩, by kernel_rfl⟩
theorem view4 : viewL 9 (valL (rawL [sA])) = [] := by
  have hv : ∀ p ∈ rawL [sA], sgOk p := rawL_ok fun f hf => by rw [List.mem_singleton] at hf; subst hf; exact sA_ok
  refine list_none fun x => ?_
  rw [forceD_iff hv]
  rintro ⟨⟨p, hp, rfl⟩, h⟩
  simp only [rawL, List.map_cons, List.map_nil, List.mem_cons, List.not_mem_nil, or_false] at hp
  subst hp
  exact absurd (h.symm.trans (show forceD (rawL [sA]) 9 sA = false by kernel_rfl)) (by decide)
theorem cpl5 : cplV (valL (rawL [shF 3 4 1, shF 3 2 1, shF 3 1 5])) 3 = 2 := by
  have o1 : fOk (shF 3 4 1) := shF_ok (isI_small (by omega)) (isI_small (by omega)) (isI_small (by omega))
  have o2 : fOk (shF 3 2 1) := shF_ok (isI_small (by omega)) (isI_small (by omega)) (isI_small (by omega))
  have o3 : fOk (shF 3 1 5) := shF_ok (isI_small (by omega)) (isI_small (by omega)) (isI_small (by omega))
  have hv := three_ok o1 o2 o3
  have n1 : (numF (shF 3 4 1)).2 = true := by decide
  have n2 : (numF (shF 3 2 1)).2 = true := by decide
  have n3 : (numF (shF 3 1 5)).2 = true := by decide
  have hm : ∀ f, f ∈ valL (rawL [shF 3 4 1, shF 3 2 1, shF 3 1 5]) ↔ f = shF 3 4 1 ∨ f = shF 3 2 1 ∨ f = shF 3 1 5 := fun f => by
    rw [(valL_facts hv).1, vF_in]
    constructor
    · rintro ⟨⟨p, hp, rfl⟩, _⟩
      simp only [rawL, List.map_cons, List.map_nil, List.mem_cons, List.not_mem_nil, or_false] at hp
      rcases hp with rfl | rfl | rfl <;> simp
    · rintro (rfl | rfl | rfl)
      · exact ⟨⟨(shF 3 4 1, zs), by simp [rawL], rfl⟩, n1⟩
      · exact ⟨⟨(shF 3 2 1, zs), by simp [rawL], rfl⟩, n2⟩
      · exact ⟨⟨(shF 3 1 5, zs), by simp [rawL], rfl⟩, n3⟩
  unfold cplV
  generalize valL (rawL [shF 3 4 1, shF 3 2 1, shF 3 1 5]) = all at hm
  obtain ⟨h1, h2⟩ := cpl_spec (rfs all all.length) 3
  have hR : ∀ k : Int, (3, k) ∈ rfs all all.length ↔ k = 4 ∨ k = 2 ∨ k = 1 := fun k => by
    rw [rfs_all]
    constructor
    · rintro ⟨g, hg, he⟩
      have hk : g 1 = k := congrArg Prod.snd he
      rcases (hm g).1 hg with rfl | rfl | rfl
      · exact .inl hk.symm
      · exact .inr (.inl hk.symm)
      · exact .inr (.inr hk.symm)
    · rintro (rfl | rfl | rfl)
      · exact ⟨_, (hm _).2 (.inl rfl), rfl⟩
      · exact ⟨_, (hm _).2 (.inr (.inl rfl)), rfl⟩
      · exact ⟨_, (hm _).2 (.inr (.inr rfl)), rfl⟩
  generalize cplL (rfs all all.length) 3 = n at h1 h2
  rw [hR] at h2
  have a : ¬ 2 < n := fun h => by have := (hR _).1 (h1 2 h); omega
  omega
end Go.Proofs.YtghfancmonhkcaaDoor

/-
  Ledgers: sane.
-/
set_option linter.unusedSimpArgs false
set_option linter.unusedVariables false
namespace Go.Proofs.YtghfancmonhkcaaDoor
open Go.Xe Go.RowKit

theorem raw3 (a b c : F) (ha : fOk a) (hb : fOk b) (hc : fOk c) : Fun Tryd.prog 13 [.row 1000] [(1000, .row 54 57 3 ((fsC [a, b, c]).map .d))] (.d (lgD (rawL [a, b, c]) false)) [] fun _ => False :=
  Fun.ofRow 1000 (T := 54) (cs := fsC [a, b, c]) (raw_ok [a, b, c] (by simp) (fun f hf => by
    simp only [List.mem_cons, List.not_mem_nil, or_false] at hf
    rcases hf with rfl | rfl | rfl <;> assumption)) rfl rfl trivial
set_option maxRecDepth 10000 in
theorem z171 : ([.d (.v (.int .i64 0)), .d (.v (.int .i64 0)), .d (.v (.int .i64 0)), .d (.v (.int .i64 0)), .d (.v (.int .i64 0)), .d (.v (.int .i64 0)), .d (.v (.int .i64 0)), .d (.v (.int .i64 0)), .d (.v (.int .i64 0)), .d (.v (.int .i64 0)), .d (.v (.int .i64 0)), .d (.v (.int .i64 0)), .d (.v (.int .i64 0)), .d (.v (.int .i64 0)), .d (.v (.int .i64 0)), .d (.v (.int .i64 0)), .d (.v (.int .i64 0)), .d (.v (.int .i64 0)), .d (.v (.int .i64 0)), .d (.v (.int .i64 0)), .d (.v (.int .i64 0)), .d (.v (.int .i64 0)), .d (.v (.int .i64 0)), .d (.v (.int .i64 0)), .d (.v (.int .i64 0)), .d (.v (.int .i64 0)), .d (.v (.int .i64 0)), .d (.v (.int .i64 0)), .d (.v (.int .i64 0)), .d (.v (.int .i64 0)), .d (.v (.int .i64 0)), .d (.v (.int .i64 0)), .d (.v (.int .i64 0)), .d (.v (.int .i64 0)), .d (.v (.int .i64 0)), .d (.v (.int .i64 0)), .d (.v (.int .i64 0)), .d (.v (.int .i64 0)), .d (.v (.int .i64 0)), .d (.v (.int .i64 0)), .d (.v (.int .i64 0)), .d (.v (.int .i64 0)), .d (.v (.int .i64 0)), .d (.v (.int .i64 0)), .d (.v (.int .i64 0)), .d (.v (.int .i64 0)), .d (.v (.int .i64 0)), .d (.v (.int .i64 0)), .d (.v (.int .i64 0)), .d (.v (.int .i64 0)), .d (.v (.int .i64 0)), .d (.v (.int .i64 0)), .d (.v (.int .i64 0)), .d (.v (.int .i64 0)), .d (.v (.bool false)), .d (.v (.int .i64 0)), .d (.v (.int .i64 0)), .d (.v (.int .i64 0)), .d (.v (.int .i64 0)), .d (.v (.int .i64 0)), .d (.v (.int .i64 0)), .d (.v (.int .i64 0)), .d (.v (.int .i64 0)), .d (.v (.int .i64 0)), .d (.v (.int .i64 0)), .d (.v (.int .i64 0)), .d (.v (.int .i64 0)), .d (.v (.int .i64 0)), .d (.v (.int .i64 0)), .d (.v (.int .i64 0)), .d (.v (.int .i64 0)), .d (.v (.int .i64 0)), .d (.v (.int .i64 0)), .d (.v (.int .i64 0)), .d (.v (.int .i64 0)), .d (.v (.int .i64 0)), .d (.v (.int .i64 0)), .d (.v (.int .i64 0)), .d (.v (.int .i64 0)), .d (.v (.int .i64 0)), .d (.v (.int .i64 0)), .d (.v (.int .i64 0)), .d (.v (.int .i64 0)), .d (.v (.int .i64 0)), .d (.v (.int .i64 0)), .d (.v (.int .i64 0)), .d (.v (.int .i64 0)), .d (.v (.int .i64 0)), .d (.v (.int .i64 0)), .d (.v (.int .i64 0)), .d (.v (.int .i64 0)), .d (.v (.int .i64 0)), .d (.v (.int .i64 0)), .d (.v (.int .i64 0)), .d (.v (.int .i64 0)), .d (.v (.int .i64 0)), .d (.v (.int .i64 0)), .d (.v (.int .i64 0)), .d (.v (.int .i64 0)), .d (.v (.int .i64 0)), .d (.v (.int .i64 0)), .d (.v (.int .i64 0)), .d (.v (.int .i64 0)), .d (.v (.int .i64 0)), .d (.v (.int .i64 0)), .d (.v (.int .i64 0)), .d (.v (.int .i64 0)), .d (.v (.int .i64 0)), .d (.v (.int .i64 0)), .d (.v (.int .i64 0)), .d (.v (.int .i64 0)), .d (.v (.bool false)), .d (.v (.int .i64 0)), .d (.v (.int .i64 0)), .d (.v (.int .i64 0)), .d (.v (.int .i64 0)), .d (.v (.int .i64 0)), .d (.v (.int .i64 0)), .d (.v (.int .i64 0)), .d (.v (.int .i64 0)), .d (.v (.int .i64 0)), .d (.v (.int .i64 0)), .d (.v (.int .i64 0)), .d (.v (.int .i64 0)), .d (.v (.int .i64 0)), .d (.v (.int .i64 0)), .d (.v (.int .i64 0)), .d (.v (.int .i64 0)), .d (.v (.int .i64 0)), .d (.v (.int .i64 0)), .d (.v (.int .i64 0)), .d (.v (.int .i64 0)), .d (.v (.int .i64 0)), .d (.v (.int .i64 0)), .d (.v (.int .i64 0)), .d (.v (.int .i64 0)), .d (.v (.int .i64 0)), .d (.v (.int .i64 0)), .d (.v (.int .i64 0)), .d (.v (.int .i64 0)), .d (.v (.int .i64 0)), .d (.v (.int .i64 0)), .d (.v (.int .i64 0)), .d (.v (.int .i64 0)), .d (.v (.int .i64 0)), .d (.v (.int .i64 0)), .d (.v (.int .i64 0)), .d (.v (.int .i64 0)), .d (.v (.int .i64 0)), .d (.v (.int .i64 0)), .d (.v (.int .i64 0)), .d (.v (.int .i64 0)), .d (.v (.int .i64 0)), .d (.v (.int .i64 0)), .d (.v (.int .i64 0)), .d (.v (.int .i64 0)), .d (.v (.int .i64 0)), .d (.v (.int .i64 0)), .d (.v (.int .i64 0)), .d (.v (.int .i64 0)), .d (.v (.int .i64 0)), .d (.v (.int .i64 0)), .d (.v (.int .i64 0)), .d (.v (.int .i64 0)), .d (.v (.int .i64 0)), .d (.v (.int .i64 0)), .d (.v (.int .i64 0)), .d (.v (.int .i64 0)), .d (.v (.bool false)), .d (.v (.int .i64 0)), .d (.v (.int .i64 0))] : List AV) = (fsC [f0, f0, f0]).map AV.d := rfl
theorem build3 (a b c : F) : setL (setL (setL ((fsC [f0, f0, f0]).map AV.d) 0 ((fcs a 0 57).map .d)) 57 ((fcs b 0 57).map .d)) 114 ((fcs c 0 57).map .d) = (fsC [a, b, c]).map AV.d := by
  have h1 := fsC_set (l := [f0, f0, f0]) (i := 0) (by simp) a
  have h2 := fsC_set (l := [a, f0, f0]) (i := 1) (by simp) b
  have h3 := fsC_set (l := [a, b, f0]) (i := 2) (by simp) c
  simp only [Nat.zero_mul, List.set_cons_zero, List.set_cons_succ] at h1 h2 h3
  rw [h1]
  exact (congrArg (fun x => setL x 114 ((fcs c 0 57).map AV.d)) h2).trans h3
theorem voLit (c : Int) : ([.d (.v (.int .i64 c)), .d (.v (.int .i64 1)), .d (.v (.int .i64 30)), .d (.v (.int .i64 13)), .d (.v (.int .i64 0)), .d (.v (.int .i64 0)), .d (.v (.int .i64 0)), .d (.v (.int .i64 0)), .d (.v (.int .i64 0)), .d (.v (.int .i64 0)), .d (.v (.int .i64 0)), .d (.v (.int .i64 0)), .d (.v (.int .i64 0)), .d (.v (.int .i64 0)), .d (.v (.int .i64 0)), .d (.v (.int .i64 0)), .d (.v (.int .i64 0)), .d (.v (.int .i64 0)), .d (.v (.int .i64 0)), .d (.v (.int .i64 0)), .d (.v (.int .i64 0)), .d (.v (.int .i64 0)), .d (.v (.int .i64 0)), .d (.v (.int .i64 0)), .d (.v (.int .i64 0)), .d (.v (.int .i64 0)), .d (.v (.int .i64 0)), .d (.v (.int .i64 0)), .d (.v (.int .i64 0)), .d (.v (.int .i64 0)), .d (.v (.int .i64 0)), .d (.v (.int .i64 0)), .d (.v (.int .i64 0)), .d (.v (.int .i64 0)), .d (.v (.int .i64 0)), .d (.v (.int .i64 0)), .d (.v (.int .i64 0)), .d (.v (.int .i64 0)), .d (.v (.int .i64 0)), .d (.v (.int .i64 0)), .d (.v (.int .i64 0)), .d (.v (.int .i64 0)), .d (.v (.int .i64 0)), .d (.v (.int .i64 0)), .d (.v (.int .i64 0)), .d (.v (.int .i64 0)), .d (.v (.int .i64 0)), .d (.v (.int .i64 0)), .d (.v (.int .i64 0)), .d (.v (.int .i64 0)), .d (.v (.int .i64 0)), .d (.v (.int .i64 0)), .d (.v (.int .i64 0)), .d (.v (.int .i64 0)), .d (.v (.bool false)), .d (.v (.int .i64 2)), .d (.v (.int .i64 5))] : List AV) = (fcs (voF c) 0 57).map AV.d := rfl
theorem vo32 : fup (voF 3) 0 2 = voF 2 := by
  funext i
  unfold fup voF
  split <;> rfl
set_option maxRecDepth 10000 in
set_option maxHeartbeats 4000000 in
theorem sane_ok : Fn0 Tryd.prog 5 [] (.v (.bool true)) := by
  have v1 := view_ok (rawL [sB2, sA, voF 3]) false 40 (by simp [rawL]) (three_ok sB_ok sA_ok vo3_ok) (by have := (valL_facts (three_ok sB_ok sA_ok vo3_ok)).2.2.1; simp [rawL] at this ⊢; omega) (fun f hf => ((valL_facts (three_ok sB_ok sA_ok vo3_ok)).2.2.2 f hf).1)
  rw [view1] at v1
  have v2 := view_ok (rawL [sB2, sA, voF 2]) false 40 (by simp [rawL]) (three_ok sB_ok sA_ok vo2_ok) (by have := (valL_facts (three_ok sB_ok sA_ok vo2_ok)).2.2.1; simp [rawL] at this ⊢; omega) (fun f hf => ((valL_facts (three_ok sB_ok sA_ok vo2_ok)).2.2.2 f hf).1)
  rw [view2] at v2
  have v3 := view_ok (rawL [sB2, sA, voF 2]) false 29 (by simp [rawL]) (three_ok sB_ok sA_ok vo2_ok) (by have := (valL_facts (three_ok sB_ok sA_ok vo2_ok)).2.2.1; simp [rawL] at this ⊢; omega) (fun f hf => ((valL_facts (three_ok sB_ok sA_ok vo2_ok)).2.2.2 f hf).1)
  rw [view3] at v3
  have new1 : Fun Tryd.prog 15 [.d nilD, .row 1000] [(1000, .row 59 61 1 ((fcs sA 0 57 ++ zs).map .d))] (.d (.tup [.agg [nilD], .v (.int .i64 (oneE sA))])) [] fun _ => False :=
    Fun.ofRow 1000 (T := 59) (cs := fcs sA 0 57 ++ zs) (new_one sA false sA_ok (by decide)) rfl (by simp [frzL, frz, sgC]) trivial
  have hone : ∀ c, ((∃ a, a ∈ fcs (shF 2 5 10) 0 57 ∧ AV.d a = c) ∨ ∃ a, a ∈ zs ∧ AV.d a = c) → oneA c = true := by
    rintro c (⟨a, h, rfl⟩ | ⟨a, h, rfl⟩)
    · exact fcs_side h
    · exact (by decide : ∀ d ∈ zs, oneD d = true) a h
  have same1 : Fn0 Tryd.prog 10 [fD sA, fD sA] (.v (.bool true)) := by
    have := same_ok sA sA sA_ok sA_ok
    rwa [(eqF_iff sA_ok sA_ok).2 rfl] at this
  have raw1 : Fn0 Tryd.prog 13 [.sl 57 (fcs sA 0 57) 1 false] (lgD (rawL [sA]) false) := by
    have := raw_ok [sA] (by simp) (fun f hf => by rw [List.mem_singleton] at hf; subst hf; exact sA_ok)
    simpa [fsC] using this
  have hv4 : ∀ p ∈ rawL [sA], sgOk p := rawL_ok fun f hf => by rw [List.mem_singleton] at hf; subst hf; exact sA_ok
  have v4 := view_ok (rawL [sA]) false 9 (by simp [rawL]) hv4 (by have := (valL_facts hv4).2.2.1; simp [rawL] at this ⊢; omega) (fun f hf => ((valL_facts hv4).2.2.2 f hf).1)
  rw [view4] at v4
  have o1 : fOk (shF 3 4 1) := shF_ok (isI_small (by omega)) (isI_small (by omega)) (isI_small (by omega))
  have o2 : fOk (shF 3 2 1) := shF_ok (isI_small (by omega)) (isI_small (by omega)) (isI_small (by omega))
  have o3 : fOk (shF 3 1 5) := shF_ok (isI_small (by omega)) (isI_small (by omega)) (isI_small (by omega))
  have raw5 : Fn0 Tryd.prog 13 [.sl 57 (fcs (shF 3 4 1) 0 57 ++ (fcs (shF 3 2 1) 0 57 ++ fcs (shF 3 1 5) 0 57)) 3 false] (lgD (rawL [shF 3 4 1, shF 3 2 1, shF 3 1 5]) false) := by
    have := raw_ok [shF 3 4 1, shF 3 2 1, shF 3 1 5] (by simp) (fun f hf => by
      simp only [List.mem_cons, List.not_mem_nil, or_false] at hf
      rcases hf with rfl | rfl | rfl <;> assumption)
    simpa [fsC] using this
  have hv5 := three_ok o1 o2 o3
  have c5 := complete_ok (rawL [shF 3 4 1, shF 3 2 1, shF 3 1 5]) false 3 (isI_small (by omega)) (by simp [rawL]) hv5 (by have := (valL_facts hv5).2.2.1; simp [rawL] at this ⊢; omega) (fun f hf => ((valL_facts hv5).2.2.2 f hf).1)
  rw [cpl5] at c5
  refine Fun.of_wp (pn := noPn) Tryd.tab Tryd.func5 rfl fun β0 => ?_
  simp only [Tryd.f5]
  repeat (first | refine WP.seq ?_ | refine WP.block ?_ | (refine WP.region Tryd.tab ?_; simp -dsimp) | (refine WP.draw Tryd.tab Tryd.mixed ?_; simp -dsimp) | refine And.intro (by first | rfl | omega | decide | (simp; done) | (simp; omega) | (intro _ h; exact fcs_side h; done) | (intros; simp_all; done) | (intros; simp_all; omega)) ?_)
  refine vcStop.call0 Tryd.body14 (short_ok 2 5 10) rfl rfl (by simp) ?_
  simp -dsimp
  repeat (first | refine WP.seq ?_ | refine WP.block ?_ | (refine WP.region Tryd.tab ?_; simp -dsimp) | (refine WP.draw Tryd.tab Tryd.mixed ?_; simp -dsimp) | refine And.intro (by first | rfl | omega | decide | (simp; done) | (simp; omega) | (intro _ h; exact fcs_side h; done) | (intros; simp_all; done) | (intros; simp_all; omega)) ?_)
  refine vcStop.call0 Tryd.body14 (short_ok 2 5 20) rfl rfl (by simp) ?_
  simp -dsimp [fD]
  repeat (first | refine WP.seq ?_ | refine WP.block ?_ | (refine WP.region Tryd.tab ?_; simp -dsimp [voLit, vo32, z171, build3]) | (refine WP.draw Tryd.tab Tryd.mixed ?_; simp -dsimp [voLit, vo32, z171, build3]) | refine And.intro (by first | rfl | omega | decide | (simp; done) | (simp; omega) | (intro _ h; exact fcs_side h; done) | (intros; simp_all; done) | (intros; simp_all; omega)) ?_)
  refine vcStop.call Tryd.body13 (raw3 sB2 sA (voF 3) sB_ok sA_ok vo3_ok) (rl [(1000, 21)]) rfl rfl (by simp [sA, sB2, BoxLeq]) (CallOk.of (by simp [sA, sB2, BoxLeq]) rfl (by first | rfl | (simp [sA, sB2, BoxLeq]; done)) (by simp [sA, sB2, BoxLeq]) (by simp [sA, sB2, BoxLeq])) (fun _ h => h.elim) (fun ⟨_, h⟩ => h.elim) (fun ⟨_, h⟩ => h.elim) (by simp [sA, sB2, BoxLeq]) ?_
  simp -dsimp
  repeat (first | refine WP.seq ?_ | refine WP.block ?_ | (refine WP.region Tryd.tab ?_; simp -dsimp) | (refine WP.draw Tryd.tab Tryd.mixed ?_; simp -dsimp) | refine And.intro (by first | rfl | omega | decide | (simp; done) | (simp; omega) | (intro _ h; exact fcs_side h; done) | (intros; simp_all; done) | (intros; simp_all; omega)) ?_)
  refine vcStop.call0 Tryd.body6 v1 rfl rfl (by simp) ?_
  simp -dsimp
  repeat (first | refine WP.seq ?_ | refine WP.block ?_ | (refine WP.region Tryd.tab ?_; simp -dsimp [voLit, vo32, z171, build3]) | (refine WP.draw Tryd.tab Tryd.mixed ?_; simp -dsimp [voLit, vo32, z171, build3]) | refine And.intro (by first | rfl | omega | decide | (simp; done) | (simp; omega) | (intro _ h; exact fcs_side h; done) | (intros; simp_all; done) | (intros; simp_all; omega)) ?_)
  refine vcStop.call Tryd.body13 (raw3 sB2 sA (voF 2) sB_ok sA_ok vo2_ok) (rl [(1000, 27)]) rfl rfl (by simp [sA, sB2, BoxLeq]) (CallOk.of (by simp [sA, sB2, BoxLeq]) rfl (by first | rfl | (simp [sA, sB2, BoxLeq]; done)) (by simp [sA, sB2, BoxLeq]) (by simp [sA, sB2, BoxLeq])) (fun _ h => h.elim) (fun ⟨_, h⟩ => h.elim) (fun ⟨_, h⟩ => h.elim) (by simp [sA, sB2, BoxLeq]) ?_
  simp -dsimp
  repeat (first | refine WP.seq ?_ | refine WP.block ?_ | (refine WP.region Tryd.tab ?_; simp -dsimp) | (refine WP.draw Tryd.tab Tryd.mixed ?_; simp -dsimp) | refine And.intro (by first | rfl | omega | decide | (simp; done) | (simp; omega) | (intro _ h; exact fcs_side h; done) | (intros; simp_all; done) | (intros; simp_all; omega)) ?_)
  refine vcStop.call0 Tryd.body6 v2 rfl rfl (by simp) ?_
  simp -dsimp
  repeat (first | refine WP.seq ?_ | refine WP.block ?_ | (refine WP.region Tryd.tab ?_; simp -dsimp [voLit, vo32, z171, build3]) | (refine WP.draw Tryd.tab Tryd.mixed ?_; simp -dsimp [voLit, vo32, z171, build3]) | refine And.intro (by first | rfl | omega | decide | (simp; done) | (simp; omega) | (intro _ h; exact fcs_side h; done) | (intros; simp_all; done) | (intros; simp_all; omega)) ?_)
  refine vcStop.call Tryd.body13 (raw3 sB2 sA (voF 2) sB_ok sA_ok vo2_ok) (rl [(1000, 33)]) rfl rfl (by simp [sA, sB2, BoxLeq]) (CallOk.of (by simp [sA, sB2, BoxLeq]) rfl (by first | rfl | (simp [sA, sB2, BoxLeq]; done)) (by simp [sA, sB2, BoxLeq]) (by simp [sA, sB2, BoxLeq])) (fun _ h => h.elim) (fun ⟨_, h⟩ => h.elim) (fun ⟨_, h⟩ => h.elim) (by simp [sA, sB2, BoxLeq]) ?_
  simp -dsimp
  repeat (first | refine WP.seq ?_ | refine WP.block ?_ | (refine WP.region Tryd.tab ?_; simp -dsimp) | (refine WP.draw Tryd.tab Tryd.mixed ?_; simp -dsimp) | refine And.intro (by first | rfl | omega | decide | (simp; done) | (simp; omega) | (intro _ h; exact fcs_side h; done) | (intros; simp_all; done) | (intros; simp_all; omega)) ?_)
  refine vcStop.call0 Tryd.body6 v3 rfl rfl (by simp) ?_
  simp -dsimp
  repeat (first | refine WP.seq ?_ | refine WP.block ?_ | (refine WP.region Tryd.tab ?_; simp -dsimp [zero61, set61]) | (refine WP.draw Tryd.tab Tryd.mixed ?_; simp -dsimp [zero61, set61]) | refine And.intro (by first | rfl | omega | decide | (simp; done) | (simp; omega) | (intro _ h; exact fcs_side h; done) | (intros; simp_all; done) | (intros; simp_all; omega)) ?_)
  refine And.intro ⟨rfl, hone⟩ ?_
  refine vcStop.call Tryd.body15 (new1) (rl [(1000, 39)]) rfl rfl (by simp [sA, BoxLeq]) (CallOk.of (by simp [sA, BoxLeq]) rfl (by first | rfl | (simp [sA, BoxLeq]; done)) (by simp [sA, BoxLeq]) (by simp [sA, BoxLeq])) (fun _ h => h.elim) (fun ⟨_, h⟩ => h.elim) (fun ⟨_, h⟩ => h.elim) (by simp [sA, BoxLeq]) ?_
  simp -dsimp
  repeat (first | refine WP.seq ?_ | refine WP.block ?_ | (refine WP.region Tryd.tab ?_; simp -dsimp) | (refine WP.draw Tryd.tab Tryd.mixed ?_; simp -dsimp) | refine And.intro (by first | rfl | omega | decide | (simp; done) | (simp; omega) | (intro _ h; exact fcs_side h; done) | (intros; simp_all; done) | (intros; simp_all; omega)) ?_)
  refine vcStop.call0 Tryd.body15 new_nil rfl rfl (by simp) ?_
  simp -dsimp
  repeat (first | refine WP.seq ?_ | refine WP.block ?_ | (refine WP.region Tryd.tab ?_; simp -dsimp) | (refine WP.draw Tryd.tab Tryd.mixed ?_; simp -dsimp) | refine And.intro (by first | rfl | omega | decide | (simp; done) | (simp; omega) | (intro _ h; exact fcs_side h; done) | (intros; simp_all; done) | (intros; simp_all; omega)) ?_)
  refine vcStopG.call0 Tryd.body10 (fun _ => same1) rfl (fun _ => rfl) (fun hg => by simp [fD, sA, fsC]) ?_
  simp -dsimp
  repeat (first | refine WP.seq ?_ | refine WP.block ?_ | (refine WP.region Tryd.tab ?_; simp -dsimp) | (refine WP.draw Tryd.tab Tryd.mixed ?_; simp -dsimp) | refine And.intro (by first | rfl | omega | decide | (simp; done) | (simp; omega) | (intro _ h; exact fcs_side h; done) | (intros; simp_all; done) | (intros; simp_all; omega)) ?_)
  refine vcStopG.buildData Tryd.tab (ds := fcs sA 0 57) rfl rfl rfl rfl (LeqL.refl _) (by decide) (by decide) (by simp [fcs_length]; exact fun _ h => fcs_side h) ?_
  simp -dsimp
  repeat (first | refine WP.seq ?_ | refine WP.block ?_ | (refine WP.region Tryd.tab ?_; simp -dsimp) | (refine WP.draw Tryd.tab Tryd.mixed ?_; simp -dsimp) | refine And.intro (by first | rfl | omega | decide | (simp; done) | (simp; omega) | (intro _ h; exact fcs_side h; done) | (intros; simp_all; done) | (intros; simp_all; omega)) ?_)
  refine vcStopG.call0 Tryd.body13 (fun _ => raw1) rfl (fun _ => rfl) (fun hg => by simp) ?_
  simp -dsimp
  repeat (first | refine WP.seq ?_ | refine WP.block ?_ | (refine WP.region Tryd.tab ?_; simp -dsimp) | (refine WP.draw Tryd.tab Tryd.mixed ?_; simp -dsimp) | refine And.intro (by first | rfl | omega | decide | (simp; done) | (simp; omega) | (intro _ h; exact fcs_side h; done) | (intros; simp_all; done) | (intros; simp_all; omega)) ?_)
  refine vcStopG.call0 Tryd.body6 (fun _ => v4) rfl (fun _ => rfl) (fun hg => by simp) ?_
  simp -dsimp
  repeat (first | refine WP.seq ?_ | refine WP.block ?_ | (refine WP.region Tryd.tab ?_; simp -dsimp) | (refine WP.draw Tryd.tab Tryd.mixed ?_; simp -dsimp) | refine And.intro (by first | rfl | omega | decide | (simp; done) | (simp; omega) | (intro _ h; exact fcs_side h; done) | (intros; simp_all; done) | (intros; simp_all; omega)) ?_)
  refine vcStopG.call0 Tryd.body14 (fun _ => short_ok 3 4 1) rfl (fun _ => rfl) (fun hg => by simp) ?_
  simp -dsimp
  repeat (first | refine WP.seq ?_ | refine WP.block ?_ | (refine WP.region Tryd.tab ?_; simp -dsimp) | (refine WP.draw Tryd.tab Tryd.mixed ?_; simp -dsimp) | refine And.intro (by first | rfl | omega | decide | (simp; done) | (simp; omega) | (intro _ h; exact fcs_side h; done) | (intros; simp_all; done) | (intros; simp_all; omega)) ?_)
  refine vcStopG.call0 Tryd.body14 (fun _ => short_ok 3 2 1) rfl (fun _ => rfl) (fun hg => by simp) ?_
  simp -dsimp
  repeat (first | refine WP.seq ?_ | refine WP.block ?_ | (refine WP.region Tryd.tab ?_; simp -dsimp) | (refine WP.draw Tryd.tab Tryd.mixed ?_; simp -dsimp) | refine And.intro (by first | rfl | omega | decide | (simp; done) | (simp; omega) | (intro _ h; exact fcs_side h; done) | (intros; simp_all; done) | (intros; simp_all; omega)) ?_)
  refine vcStopG.call0 Tryd.body14 (fun _ => short_ok 3 1 5) rfl (fun _ => rfl) (fun hg => by simp) ?_
  simp -dsimp [fD]
  repeat (first | refine WP.seq ?_ | refine WP.block ?_ | (refine WP.region Tryd.tab ?_; simp -dsimp) | (refine WP.draw Tryd.tab Tryd.mixed ?_; simp -dsimp) | refine And.intro (by first | rfl | omega | decide | (simp; done) | (simp; omega) | (intro _ h; exact fcs_side h; done) | (intros; simp_all; done) | (intros; simp_all; omega)) ?_)
  refine vcStopG.buildData Tryd.tab (ds := fcs (shF 3 4 1) 0 57 ++ (fcs (shF 3 2 1) 0 57 ++ fcs (shF 3 1 5) 0 57)) rfl rfl rfl rfl (LeqL.refl _) (by decide) (by decide) (by simp [fcs_length, setL_length]; exact ⟨fun _ h => fcs_side h, fun _ h => fcs_side h, fun _ h => fcs_side h⟩) ?_
  simp -dsimp
  repeat (first | refine WP.seq ?_ | refine WP.block ?_ | (refine WP.region Tryd.tab ?_; simp -dsimp) | (refine WP.draw Tryd.tab Tryd.mixed ?_; simp -dsimp) | refine And.intro (by first | rfl | omega | decide | (simp; done) | (simp; omega) | (intro _ h; exact fcs_side h; done) | (intros; simp_all; done) | (intros; simp_all; omega)) ?_)
  refine vcStopG.call0 Tryd.body13 (fun _ => raw5) rfl (fun _ => rfl) (fun hg => by simp) ?_
  simp -dsimp
  repeat (first | refine WP.seq ?_ | refine WP.block ?_ | (refine WP.region Tryd.tab ?_; simp -dsimp) | (refine WP.draw Tryd.tab Tryd.mixed ?_; simp -dsimp) | refine And.intro (by first | rfl | omega | decide | (simp; done) | (simp; omega) | (intro _ h; exact fcs_side h; done) | (intros; simp_all; done) | (intros; simp_all; omega)) ?_)
  refine vcStopG.call0 Tryd.body11 (fun _ => c5) rfl (fun _ => rfl) (fun hg => by simp) ?_
  simp -dsimp
  repeat (first | refine WP.seq ?_ | refine WP.block ?_ | (refine WP.region Tryd.tab ?_; simp -dsimp) | (refine WP.draw Tryd.tab Tryd.mixed ?_; simp -dsimp) | refine And.intro (by first | rfl | omega | decide | (simp; done) | (simp; omega) | (intro _ h; exact fcs_side h; done) | (intros; simp_all; done) | (intros; simp_all; omega)) ?_)
  refine vcStopG.call0 Tryd.body16 (fun _ => crews_nil) rfl (fun _ => rfl) (fun hg => by simp) ?_
  simp -dsimp
  repeat (first | refine WP.seq ?_ | refine WP.block ?_ | (refine WP.region Tryd.tab ?_; simp -dsimp) | (refine WP.draw Tryd.tab Tryd.mixed ?_; simp -dsimp) | refine And.intro (by first | rfl | omega | decide | (simp; done) | (simp; omega) | (intro _ h; exact fcs_side h; done) | (intros; simp_all; done) | (intros; simp_all; omega)) ?_)
  have hoe : decide (oneE sA = 0) = false := decide_eq_false (by unfold oneE; split <;> decide)
  refine WP.ret (finQ.retE ?_)
  simp -dsimp [hoe]
end Go.Proofs.YtghfancmonhkcaaDoor
