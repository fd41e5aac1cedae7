/-
  Joined texts.
-/
import Derived.Test.YtnljenjcaeophaaGreatDoorKY
set_option linter.unusedVariables false
set_option linter.unusedSimpArgs false
set_option linter.unusedSectionVars false
namespace Go.Proofs.YtnljenjcaeophaaGreatDoor
open Go.Xe Go.RowKit
theorem setL_ds : ∀ (xs cs : List AV) (off : Nat), (∀ c ∈ cs, ∃ d, c = .d d) → (∀ c ∈ xs, ∃ d, c = .d d) → ∀ c ∈ setL cs off xs, ∃ d, c = AV.d d
 | [], cs, off, h, _, c, hc => h c hc
 | x :: xs, cs, off, h, h2, c, hc => setL_ds xs _ _ (fun c' hc' => by
   rcases List.mem_or_eq_of_mem_set hc' with h' | rfl
   ·exact h c' h'
   ·exact h2 _ (by simp)) (fun c' hc' => h2 c' (by simp [hc'])) c hc
theorem hasL_ds {k : Nat} : ∀ {l : List AV}, (∀ c ∈ l, ∃ d, c = .d d) → AV.hasL k l = false
 | [], _ => rfl
 | c :: l, h => by
  obtain ⟨d, rfl⟩ := h c (by simp)
  rw [AV.hasL, hasL_ds fun c' h' => h c' (by simp [h'])]
  rfl
theorem hasL_setL (k : Nat) (ds : List D) (off n : Nat) : AV.hasL k (setL (ds.map .d) off (List.replicate n (.d .any))) = false :=
 hasL_ds (setL_ds _ _ _ (fun c h => by obtain ⟨d, _, rfl⟩ := List.mem_map.1 h; exact ⟨d, rfl⟩) fun c h => ⟨_, List.eq_of_mem_replicate h⟩)
@[simp] def cB : Box := .cells 92 [.d cmpD]
@[simp] def rB (l : List F) : Box := .row 65 57 l.length ((fsC l).map .d)
abbrev eqA : AV := .fn (.func 207) [] [.ptr 1001 0]
abbrev nilD : D := .v (.slice none 0 0)
abbrev Sg := F × List D
def sgC (l : List Sg) : List D := l.flatMap fun p => fcs p.1 0 57 ++ p.2
def sgOk (p : Sg) : Prop := fOk p.1 ∧ p.2.length = 4 ∧ ∀ d ∈ p.2, oneD d = true
@[simp] def sgD (l : List Sg) (b : Bool) : D := .sl 61 (sgC l) l.length b
@[simp] def lgD (l : List Sg) (b : Bool) : D := .agg [sgD l b]
@[simp] def slF (l : List F) : D := .sl 57 (fsC l) l.length false
theorem sgC_append (a b : List Sg) : sgC (a ++ b) = sgC a ++ sgC b := by simp [sgC]
theorem sgC_len : ∀ {l : List Sg}, (∀ p ∈ l, sgOk p) → (sgC l).length = l.length * 61
 | [], _ => rfl
 | p :: l, h => by
  have e : sgC (p :: l) = (fcs p.1 0 57 ++ p.2) ++ sgC l := rfl
  rw [e, List.length_append, List.length_append, fcs_len57, (h p (by simp)).2.1, sgC_len fun q hq => h q (by simp [hq]), List.length_cons]
  omega
theorem sgC_at {l1 l2 : List Sg} {p : Sg} (h : ∀ q ∈ l1 ++ p :: l2, sgOk q) : ((sgC (l1 ++ p :: l2)).drop (l1.length * 61)).take 61 = fcs p.1 0 57 ++ p.2 := by
 have e : sgC (p :: l2) = (fcs p.1 0 57 ++ p.2) ++ sgC l2 := rfl
 have h1 : (sgC l1).length = l1.length * 61 := sgC_len fun q hq => h q (by simp [hq])
 have h2 : (fcs p.1 0 57 ++ p.2).length = 61 := by rw [List.length_append, fcs_len57, (h p (by simp)).2.1]
 rw [sgC_append, e, ← h1, List.drop_left, List.take_append, h2, Nat.sub_self, List.take_zero, List.append_nil, List.take_of_length_le (by omega)]
def vF (l : List Sg) : List F := (l.map (·.1)).filter fun f => (numF f).2
theorem vF_append (a b : List Sg) : vF (a ++ b) = vF a ++ vF b := by simp [vF]
theorem vF_len (l : List Sg) : (vF l).length ≤ l.length := by
 have := List.length_filter_le (fun f : F => (numF f).2) (l.map (·.1))
 rw [List.length_map] at this
 exact this
@[simp] theorem sg_side {p : Sg} (h : sgOk p) : ∀ d ∈ p.2, oneD d = true := h.2.2
end Go.Proofs.YtnljenjcaeophaaGreatDoor
