/-
  Remote crews, in plain lists: what is signed verifies under the crew's key, and does not contradict itself.
-/
import Derived.Test.YtfgcgagcpnbgmaaGreatDoorQNc
import Derived.Test.YtfgcgagcpnbgmaaGreatDoorQJd
set_option linter.unusedVariables false
set_option linter.unusedSimpArgs false
set_option linter.unusedSectionVars false
namespace Go.Proofs.YtfgcgagcpnbgmaaGreatDoor
open Go.Xe Go.RowKit
theorem onK_facts {crew m : Int} {i : Nat} {b : By} (h : onK crew m i b = true) (hb : b.length ≤ 1000000000000) :
  fOk (decF b).1 ∧ (numF (decF b).1).2 = true ∧ (decF b).1 0 = crew ∧ (decF b).1 1 = (i : Int) + 1 ∧ (i : Int) < m := by
 rw [onK, decide_eq_true_eq] at h
 obtain ⟨h1, h2, h3, h4⟩ := h
 refine ⟨decF_ok hb, ?_, h2, h3, h4⟩
 rcases decF_val hb with ⟨_, he⟩ | ⟨hne, _⟩
 ·by_cases hv : (numF (decF b).1).2 = true
  ·exact hv
  ·rw [enc_no hv] at he
   have := congrArg Prod.snd he
   simp at this
 ·exact absurd h1 hne
theorem onL_get (seed : By) (m : Int) (l : List By) {j : Nat} (hj : j < (onL seed m l).length) : (onL seed m l)[j] = sgQ seed m (decF (l[j]'(by rw [onL_len] at hj; exact hj))).1 := by simp [onL]
theorem on_vfy {crew : Int} {seed : By} {m u : Int} {l : List By} (h : onB crew m 0 l = true) (hk : keyV seed m u = true) (hc0 : 0 ≤ crew) (hl : ∀ b ∈ l, b.length ≤ 1000000000000) {cr : List Crw} (hcr : crB cr = true) (hlen : crew < cr.length)
  (hat : cr.getD crew.toNat (z32, 0) = (treeB (pubsB seed m.toNat), m)) {p : Sg} (hp : p ∈ onL seed m l) : vfyS cr p = 0 := by
 obtain ⟨b, hb, rfl⟩ := List.mem_map.1 hp
 obtain ⟨j, hj, rfl⟩ := List.mem_iff_getElem.1 hb
 have hkk := keyV_iff.1 hk
 obtain ⟨h1, h2, h3, h4, h5⟩ := onK_facts (onB_get h hj) (hl _ hb)
 obtain ⟨M, rfl⟩ : ∃ M : Nat, m = M := ⟨m.toNat, by omega⟩
 rw [Int.toNat_natCast] at hat
 have hv := vfy_sgn seed M u (decF l[j]).1 h2 hk (by omega) cr hcr (by omega) (by rw [h3]; exact hat)
 rw [sgQ, Int.toNat_natCast, vfyS_eq rfl (sig_sgn seed M _ _ (by omega) (by omega))]
 exact hv
end Go.Proofs.YtfgcgagcpnbgmaaGreatDoor
