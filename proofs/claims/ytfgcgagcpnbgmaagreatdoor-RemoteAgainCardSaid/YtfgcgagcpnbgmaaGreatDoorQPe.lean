/-
  Decode of Encode, and back.
-/
import Derived.Test.YtfgcgagcpnbgmaaGreatDoorQH
set_option linter.unusedVariables false
set_option linter.unusedSimpArgs false
set_option linter.unusedSectionVars false
namespace Go.Proofs.YtfgcgagcpnbgmaaGreatDoor
open Go.Xe Go.RowKit
theorem intV_num (l : List Int) : (l.map intV).map V.num = l := by
 rw [List.map_map]
 exact (List.map_congr_left fun x _ => rfl).trans (List.map_id _)
theorem enc_yes {f : Nat → Int} (v : (numF f).2 = true) : encR f = (encF f, 0) := if_pos v
theorem enc_no {f : Nat → Int} (v : ¬ (numF f).2 = true) : encR f = ([], 120) := if_neg v
theorem encF_len {f : Nat → Int} (hf : fOk f) : (encF f).length ≤ 10000 := by
 obtain ⟨h1, h2⟩ := numF_in hf
 obtain ⟨_, _, h3, _⟩ := intsL_facts h1
 rw [encF, intsV, V.enc]
 have h10 := digs_len10 (u := (numF f).1.length) (by unfold isU; omega)
 simp
 omega
theorem pDec_enc {f : Nat → Int} (hf : fOk f) : pDec (encF f) = (intsV (numF f).1, 0) := by
 obtain ⟨h1, h2⟩ := numF_in hf
 have a := intsV_facts h1 (by omega)
 have ra := V.read (intsV (numF f).1) 16 [] (V.chk_ok a.1) a.2.1 (by omega) (by omega)
 rw [List.append_nil] at ra
 rw [pDec, encF, ra]
theorem nums_enc {f : Nat → Int} (hf : fOk f) : numsB (encF f) = (numF f).1 := by
 rw [numsB, pDec_enc hf]
 exact intV_num _
theorem dec_of_enc {f : Nat → Int} (hf : fOk f) (v : (numF f).2 = true) : decF (encF f) = (f, 0) := by
 rw [decF, pDec_enc hf, if_pos rfl, decL, nums_enc hf, cand_num v hf, if_pos (enc_yes v)]
theorem nums_in {bs : List UInt8} (h : bs.length ≤ 1000000000000) : ∀ x ∈ numsB bs, isI x := by
 rcases pDec_facts h with ⟨_, hr, _⟩ | hb
 ·rw [numsB]
  generalize (pDec bs).1 = v at *
  obtain ⟨k, n, s, l⟩ := v
  exact rngL_num (V.rng_n hr).2
 ·rw [numsB, hb]; simp [V.items]
theorem decF_ok {bs : List UInt8} (h : bs.length ≤ 1000000000000) : fOk (decF bs).1 := by
 rw [decF]
 have h0 : fOk f0 := ⟨fun _ => isI0, .inl rfl, fun _ _ => rfl⟩
 split
 ·rw [decL]
  split
  ·exact candG_ok (nums_in h)
  ·exact h0
 ·exact h0
theorem decF_val {bs : List UInt8} (h : bs.length ≤ 1000000000000) : ((decF bs).2 = 0 ∧ encR (decF bs).1 = (bs, 0)) ∨ ((decF bs).2 ≠ 0 ∧ (decF bs).1 = f0) := by
 rw [decF]
 split
 ·rw [decL]
  split
  ·rename_i h1; exact .inl ⟨rfl, h1⟩
  ·exact .inr ⟨by decide, rfl⟩
 ·rename_i h1; exact .inr ⟨h1, rfl⟩
end Go.Proofs.YtfgcgagcpnbgmaaGreatDoor
