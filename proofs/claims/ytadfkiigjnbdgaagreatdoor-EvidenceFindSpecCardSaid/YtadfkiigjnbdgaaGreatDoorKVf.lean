/-
  Forks: the reference's Same.. of a thing and itself.
-/
import Derived.Test.YtadfkiigjnbdgaaGreatDoorKVd
import Derived.Test.YtadfkiigjnbdgaaGreatDoorKUn
import Derived.Test.YtadfkiigjnbdgaaGreatDoorKG
import Derived.Test.YtadfkiigjnbdgaaGreatDoorKEngEa
set_option linter.unusedSectionVars false
set_option linter.unusedSimpArgs false
set_option linter.unusedVariables false
namespace Go.Proofs.YtadfkiigjnbdgaaGreatDoor
open Go.Xe Go.RowKit

def dgC (c : List D) (n : Nat) : Prop := ∃ (m : Nat) (l : List (List D)), c = l.flatten ∧ n = l.length ∧ ∀ x ∈ l, OkD Tryz.τ m 145 x
def LA : List TypeId := [5]
theorem gokA : gOk Tryz.τ LA = true := by decide
theorem noarrA : LA.all (fun t => noArr (Tryz.τ t)) = true := by decide
theorem gokA2 : gOk Tryz.τ [5, 145] = true := by decide
theorem Tryz.key5 : Tryz.prog.keyTypeAt 4 5 = true := by kernel_rfl
theorem Tryz.gd88 : Tryz.prog.eqGuardType Tryz.prog.depth 145 = false := by kernel_rfl
abbrev dgS (c : List D) (n i : Nat) : St := mkS 26 [(0, .d (.sl 32 c n false)), (1, .d (.sl 32 c n false)), (5, .d (.v (.int .i64 i)))] []
set_option maxRecDepth 10000 in
set_option maxHeartbeats 4000000 in
theorem sameDig_ok (c : List D) (n : Nat) (hc : dgC c n) (hn : n ≤ 1000000) : Fn0 Tryz.prog 63 [.sl 32 c n false, .sl 32 c n false] (.v (.bool true)) := by
  obtain ⟨m, l, rfl, rfl, hl⟩ := hc
  have hl32 : ∀ x ∈ l, x.length = 32 := fun x hx => okD_len gokA2 m 145 x (by decide) (hl x hx)
  have hcl : l.flatten.length = l.length * 32 := flatten_len l fun i x h => hl32 x (List.mem_of_getElem? h)
  refine Fun.of_wp (pn := noPn) Tryz.tab Tryz.func63 rfl fun β0 => ?_
  simp only [Tryz.f63]
  repeat (first | apply wG | (apply wR; simp -dsimp) | refine aI ?_)
  refine cF (by simp) ?_
  refine WP.skip ?_
  simp -dsimp
  repeat (first | apply wG | (apply wR; simp -dsimp) | refine aI ?_)
  refine WP.loopWk (fun q S => ∃ i : Nat, q = l.length - i ∧ i ≤ l.length ∧ S = dgS l.flatten l.length i) l.length (S0 := dgS l.flatten l.length 0) (Wk.lessE [] (by simp) (by simp)) ⟨0, rfl, by omega, rfl⟩ ?_
  rintro _ _ ⟨i, rfl, hi, rfl⟩
  simp -dsimp
  repeat (first | apply wG | (apply wR; simp -dsimp) | refine aI ?_)
  by_cases hil : i < l.length
  · have hat := flatten_chunk l hl32 i l[i] (List.getElem?_eq_getElem hil)
    have hx := hl l[i] (List.getElem_mem hil)
    have hx32 := hl32 l[i] (List.getElem_mem hil)
    have e1 : IntKind.i64.wrap ((i : Int) + 1) = ((i + 1 : Nat) : Int) := by rw [IntWalk.i64_in _ (by omega)]; omega
    generalize l[i] = x at hat hx hx32
    have hxt : List.take 32 x = x := List.take_of_length_le (by omega)
    obtain ⟨m', cs, hcs, hcl2, hce⟩ : ∃ (m' : Nat) (cs : List (List D)), x = cs.flatten ∧ cs.length = 32 ∧ ∀ c ∈ cs, OkD Tryz.τ m' 5 c := by
      cases m with
      | zero => exact hx.elim
      | succ m =>
        simp only [OkD, Tryz.τ145] at hx
        obtain ⟨cs, h1, h2, h3⟩ := hx
        exact ⟨m, cs, h1, h2, h3⟩
    refine cT (by simp; omega) ?_
    refine WP.skip ?_
    simp -dsimp
    repeat (first | apply wG | (apply wR; simp -dsimp [hat, hxt]) | refine aI ?_)
    refine vcStop.eqA Tryz.tab gokA noarrA rfl (.inr rfl) (q := 4) (by omega) (T := 145) Tryz.τ145 Tryz.key5 (by decide) Tryz.gd88 (cs := cs) (es := cs) (by simp [hcs]) (by simp [hcs]) hcl2 hcl2 hce hce (r := true) (by simp) ?_
    simp -dsimp [eqRes]
    repeat (first | apply wG | (apply wR; simp -dsimp) | refine aI ?_)
    refine cF (by simp [eqRes]) ?_
    refine WP.skip ?_
    simp -dsimp
    repeat (first | apply wG | (apply wR; simp -dsimp) | refine aI ?_)
    refine loopW.next (dgS l.flatten l.length (i + 1)) (Wk.lessE [] (by simp [e1]) (by simp)) (l.length - (i + 1)) (by omega) ⟨i + 1, rfl, by omega, rfl⟩
  · refine cF (by simp; omega) ?_
    refine WP.exit ?_
    simp -dsimp
    repeat (first | apply wG | (apply wR; simp -dsimp) | refine aI ?_)
    refine WP.ret (finQ.retE ?_)
    simp -dsimp
end Go.Proofs.YtadfkiigjnbdgaaGreatDoor
