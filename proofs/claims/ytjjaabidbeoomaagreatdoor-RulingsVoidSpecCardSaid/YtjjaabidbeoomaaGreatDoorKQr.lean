/-
  Rulings: what the laws share, in plain lists.
-/
import Derived.Test.YtjjaabidbeoomaaGreatDoorKQq
set_option linter.unusedSectionVars false
set_option linter.unusedSimpArgs false
set_option linter.unusedVariables false
namespace Go.Proofs.YtjjaabidbeoomaaGreatDoor
open Go.Xe Go.RowKit


theorem fsC_dropL : ∀ (l : List F) (k : Nat), (fsC l).drop (k * 57) = fsC (l.drop k)
  | _, 0 => by simp
  | [], k + 1 => by simp [fsC]
  | f :: l, k + 1 => by
    rw [show fsC (f :: l) = fcs f 0 57 ++ fsC l from rfl, Nat.add_mul, Nat.one_mul, Nat.add_comm, List.drop_append]
    rw [List.drop_eq_nil_of_le (by simp), List.nil_append, fcs_length, Nat.add_sub_cancel_left, fsC_dropL l k]
    rfl
theorem fsC_takeL : ∀ (l : List F) (k : Nat), (fsC l).take (k * 57) = fsC (l.take k)
  | _, 0 => by simp [fsC]
  | [], k + 1 => by simp [fsC]
  | f :: l, k + 1 => by
    rw [show fsC (f :: l) = fcs f 0 57 ++ fsC l from rfl, Nat.add_mul, Nat.one_mul, Nat.add_comm, List.take_append]
    rw [List.take_of_length_le (by simp), fcs_length, Nat.add_sub_cancel_left, fsC_takeL l k]
    rfl
theorem force_mem {c : List F} {n : Int} {f : F} (h : forceO (fileOf c n) = some f) : f ∈ c := by
  unfold forceO at h
  split at h
  · cases h
  · split at h
    · rename_i g hg
      cases h
      exact (List.mem_filter.1 (List.mem_of_head? hg)).1
    · exact (List.mem_filter.1 (List.mem_of_head? h)).1
theorem allO_mem {c : List F} {f : F} (h : f ∈ allO c) : f ∈ c := by
  obtain ⟨n, _, hn⟩ := List.mem_filterMap.1 h
  exact force_mem hn
theorem repO_mem {c : List F} {f : F} (h : f ∈ repO c) : f ∈ c := by
  obtain ⟨n, _, hn⟩ := List.mem_filterMap.1 h
  exact (List.mem_filter.1 (List.mem_of_head? hn)).1
theorem allO_len (c : List F) : (allO c).length ≤ c.length := Nat.le_trans (List.length_filterMap_le _ _) (casesL_len c)
theorem repO_len (c : List F) : (repO c).length ≤ c.length := Nat.le_trans (List.length_filterMap_le _ _) (casesL_len c)
theorem voidL_len {c : List F} (hv : ∀ f ∈ c, vOk f) (hl : c.length ≤ 20) : (voidL c).length ≤ 800 ∧ ∀ f ∈ voidL c, f ∈ c := by
  obtain ⟨_, h2, h3⟩ := setF_canon (l := extN c (casesL c)) fun f hf => hv f (extN_in hf)
  refine ⟨?_, fun f hf => extN_in ((h2 f).1 hf)⟩
  have h4 := extN_len c (casesL c)
  have h5 := Nat.mul_le_mul (Nat.le_trans (casesL_len c) hl) (Nat.mul_le_mul_left 2 hl)
  rw [voidL]
  omega
end Go.Proofs.YtjjaabidbeoomaaGreatDoor
