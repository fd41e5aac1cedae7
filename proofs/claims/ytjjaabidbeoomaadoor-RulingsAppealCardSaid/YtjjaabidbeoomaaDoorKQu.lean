/-
  Rulings: without the void ones, in plain lists.
-/
import Derived.Test.YtjjaabidbeoomaaDoorKQr
set_option linter.unusedSectionVars false
set_option linter.unusedSimpArgs false
set_option linter.unusedVariables false
namespace Go.Proofs.YtjjaabidbeoomaaDoor
open Go.Xe Go.RowKit

theorem rul_eq {n i : Int} {f : F} (h : isRul n i f = true) : f 3 = 10 ∧ f 47 = n ∧ f 48 = i := by
  simp only [isRul, Bool.and_eq_true, decide_eq_true_eq] at h
  exact ⟨h.1, h.2.1, h.2.2⟩
theorem voidL_mem {c : List F} (hv : ∀ f ∈ c, vOk f) (f : F) : f ∈ voidL c ↔ ∃ n i, (i = 1 ∨ i = 2) ∧ n ∈ casesL c ∧ f ∈ (c.filter (isRul n i)).tail := by
  obtain ⟨_, h2, _⟩ := setF_canon (l := extN c (casesL c)) fun f hf => hv f (extN_in hf)
  rw [voidL, h2, extN, List.mem_flatMap]
  constructor
  · rintro ⟨n, hn, h⟩
    rcases List.mem_append.1 h with h | h
    · exact ⟨n, 1, .inl rfl, hn, h⟩
    · exact ⟨n, 2, .inr rfl, hn, h⟩
  · rintro ⟨n, i, rfl | rfl, hn, h⟩
    · exact ⟨n, hn, List.mem_append.2 (.inl h)⟩
    · exact ⟨n, hn, List.mem_append.2 (.inr h)⟩
theorem voidL_rul {c : List F} (hv : ∀ f ∈ c, vOk f) {f : F} (h : f ∈ voidL c) : f 3 = 10 ∧ f ∈ (c.filter (isRul (f 47) (f 48))).tail := by
  obtain ⟨n, i, _, _, h⟩ := (voidL_mem hv f).1 h
  obtain ⟨h1, h2, h3⟩ := rul_eq (List.mem_filter.1 (List.mem_of_mem_tail h)).2
  subst h2; subst h3
  exact ⟨h1, h⟩
def frc (ap : Bool) (x y : List F) : Option F := if (ap && (decide (0 < x.length) && decide (y.length = 0))) = true then none else match y.head? with
  | some f => some f
  | none => x.head?
theorem forceO_frc (c : List F) (n : Int) : forceO (fileOf c n) = frc (c.any (isApp n)) (c.filter (isRul n 1)) (c.filter (isRul n 2)) := rfl
theorem frc_hd (ap : Bool) (x y : List F) : frc ap x.head?.toList y.head?.toList = frc ap x y := by
  cases x <;> cases y <;> cases ap <;> simp [frc]
theorem fm_congr {f g : Int → Option F} (h : ∀ n, f n = g n) {l : List Int} : l.filterMap f = l.filterMap g := by rw [funext h]
section
variable {c : List F} {p : F → Bool} (hv : ∀ f ∈ c, vOk f) (ha : Asc c) (hp : ∀ f ∈ c, p f = true ↔ f ∉ voidL c)
include hv ha hp
theorem wo_rul {n i : Int} (hi : i = 1 ∨ i = 2) : (c.filter p).filter (isRul n i) = ((c.filter (isRul n i)).head?).toList := by
  have hcomm : (c.filter p).filter (isRul n i) = (c.filter (isRul n i)).filter p := by
    rw [List.filter_filter, List.filter_filter]
    exact List.filter_congr fun f _ => Bool.and_comm _ _
  rw [hcomm]
  cases hX : c.filter (isRul n i) with
  | nil => rfl
  | cons h t =>
    have hh : h ∈ c ∧ isRul n i h = true := List.mem_filter.1 (by rw [hX]; simp)
    have hnd : (h :: t).Nodup := by rw [← hX]; exact (asc_nodup ha).filter _
    have h1 : p h = true := by
      rw [hp h hh.1]
      intro hV
      obtain ⟨_, hV⟩ := voidL_rul hv hV
      obtain ⟨_, e1, e2⟩ := rul_eq hh.2
      rw [e1, e2, hX] at hV
      exact (List.nodup_cons.1 hnd).1 hV
    have h2 : t.filter p = [] := List.filter_eq_nil_iff.2 fun g hg hpg => by
      have hg2 : g ∈ c ∧ isRul n i g = true := List.mem_filter.1 (by rw [hX]; simp [hg])
      refine (hp g hg2.1).1 hpg ((voidL_mem hv g).2 ⟨n, i, hi, ((casesL_ok c).mem n).2 ⟨g, hg2.1, rul_case hg2.2⟩, by rw [hX]; exact hg⟩)
    rw [List.filter_cons, if_pos h1, h2]
    rfl
omit ha in
theorem wo_other {f : F} (hf : f ∈ c) (h : f 3 ≠ 10) : p f = true := (hp f hf).2 fun hV => h (voidL_rul hv hV).1
omit ha in
theorem wo_rep (n : Int) : (c.filter p).filter (isRep n) = c.filter (isRep n) := by
  rw [List.filter_filter]
  refine List.filter_congr fun f hf => ?_
  cases hr : isRep n f with
  | false => rfl
  | true =>
    simp only [isRep, Bool.and_eq_true, decide_eq_true_eq] at hr
    rw [wo_other hv hp hf (by omega)]; rfl
omit ha in
theorem wo_app (n : Int) : (c.filter p).any (isApp n) = c.any (isApp n) := by
  rw [List.any_filter, Bool.eq_iff_iff, List.any_eq_true, List.any_eq_true]
  constructor
  · rintro ⟨f, hf, h⟩
    exact ⟨f, hf, (Bool.and_eq_true _ _ ▸ h).2⟩
  · rintro ⟨f, hf, h⟩
    have h' := h
    simp only [isApp, Bool.and_eq_true, decide_eq_true_eq] at h'
    exact ⟨f, hf, by rw [wo_other hv hp hf (by omega), h]; rfl⟩
theorem wo_cases : casesL (c.filter p) = casesL c := by
  refine (casesL_ok _).unique ⟨(casesL_ok c).asc, fun n => ?_⟩
  rw [(casesL_ok c).mem]
  constructor
  · rintro ⟨f, hf, hn⟩
    cases hpf : p f with
    | true => exact ⟨f, List.mem_filter.2 ⟨hf, hpf⟩, hn⟩
    | false =>
      have hV : f ∈ voidL c := Classical.byContradiction fun h => by rw [(hp f hf).2 h] at hpf; cases hpf
      obtain ⟨n', i, hi, hn', ht⟩ := (voidL_mem hv f).1 hV
      have hw := wo_rul hv ha hp (n := n') hi
      have hr := (List.mem_filter.1 (List.mem_of_mem_tail ht)).2
      have e : n' = n := by have := rul_case hr; rw [hn] at this; exact (Option.some.inj this).symm
      subst e
      cases hX : c.filter (isRul n' i) with
      | nil => rw [hX] at ht; cases ht
      | cons h t =>
        rw [hX] at hw
        have hm : h ∈ (c.filter p).filter (isRul n' i) := by rw [hw]; simp
        exact ⟨h, (List.mem_filter.1 hm).1, rul_case (List.mem_filter.1 hm).2⟩
  · rintro ⟨f, hf, hn⟩
    exact ⟨f, (List.mem_filter.1 hf).1, hn⟩
theorem wo_force (n : Int) : forceO (fileOf (c.filter p) n) = forceO (fileOf c n) := by
  have h1 := wo_rul hv ha hp (n := n) (i := 1) (.inl rfl)
  have h2 := wo_rul hv ha hp (n := n) (i := 2) (.inr rfl)
  have h3 := wo_app hv hp n
  rw [forceO_frc, forceO_frc, h1, h2, h3, frc_hd]
theorem wo_all : allO (c.filter p) = allO c := by
  rw [allO, allO, wo_cases hv ha hp]
  exact fm_congr fun n => wo_force hv ha hp n
theorem wo_reps : repO (c.filter p) = repO c := by
  rw [repO, repO, wo_cases hv ha hp]
  exact fm_congr fun n => by simp only [fileOf, wo_rep hv hp n]
theorem wo_void : voidL (c.filter p) = [] := by
  have h : extN (c.filter p) (casesL (c.filter p)) = [] := by
    rw [extN, List.flatMap_eq_nil_iff]
    intro n _
    rw [exN, wo_rul hv ha hp (.inl rfl), wo_rul hv ha hp (.inr rfl)]
    cases c.filter (isRul n 1) <;> cases c.filter (isRul n 2) <;> rfl
  rw [voidL, h]
  exact setF_nil
end
end Go.Proofs.YtjjaabidbeoomaaDoor
