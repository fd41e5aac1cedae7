/-
  Joined texts.
-/
import Derived.Test.YtnljenjcaeophaaGreatDoorKFe
import Derived.Test.YtnljenjcaeophaaGreatDoorKFf
import Derived.Test.YtnljenjcaeophaaGreatDoorKEngMa
import Derived.DeepKeys5
import Derived.Test.YtnljenjcaeophaaGreatDoorKW
import Derived.Test.YtnljenjcaeophaaGreatDoorKB
set_option linter.unusedVariables false
set_option linter.unusedSimpArgs false
set_option linter.unusedSectionVars false
namespace Go.Proofs.YtnljenjcaeophaaGreatDoor
open Go.Xe Go.RowKit
def refV (r : Int × Int) : Value := .agg #[.int .i64 r.1, .int .i64 r.2]
theorem refV_inj {r s : Int × Int} (h : refV r = refV s) : r = s := by
 simp [refV] at h
 exact Prod.ext h.1 h.2
theorem fit52 : fitG Tryz.τ 3 63 55 = true := by decide
theorem nty : Tryz.prog.types.size = 362 := by kernel_rfl
theorem Tryz.key52 : Tryz.prog.keyTypeAt 5 63 = true := by kernel_rfl
theorem ref_key {r : Int × Int} (h1 : isI r.1) (h2 : isI r.2) : ∃ l, keyOf Tryz.prog 63 (refV r) = some l := by
 have h : ∀ i, isI ((fun i => if i = 55 then r.1 else if i = 56 then r.2 else 0 : Nat → Int) i) := fun i => by
  dsimp only
  split
  ·exact h1
  ·split
   ·exact h2
   ·exact isI0
 obtain ⟨n, hn, h3⟩ : ∃ n, n = Tryz.prog.types.size + 1 ∧ 3 ≤ n := ⟨_, rfl, by rw [nty]; decide⟩
 have ok : OkD Tryz.τ n 63 [.v (.int .i64 r.1), .v (.int .i64 r.2)] := okD_up 3 n 63 _ h3 (fit_ok h 3 63 55 fit52)
 have hl := keyLits_okD (w := (default : World)) (I := fun _ => False) Tryz.tab gokF noarrF n 63 5 _ [.int .i64 r.1, .int .i64 r.2] Tryz.key52 (by decide) ok ⟨_, _, rfl, rfl, _, _, rfl, rfl, rfl⟩
 rw [hn] at hl
 have hk : Tryz.prog.keyType 63 = true := by kernel_rfl
 have hf : (refV r).formed Tryz.prog 63 = true := by
  unfold refV Value.formed
  rw [Tryz.underlying63]
  have : Tryz.prog.cellsOf 63 = 2 := by kernel_rfl
  simp [this]
 have hc : (refV r).cells.toList = [.int .i64 r.1, .int .i64 r.2] := rfl
 simp only [keyOf, Tryz.underlying63, hk, hf, Bool.and_self, if_true, hc, hl, Option.map_some]
 exact ⟨_, rfl⟩
theorem laidOut : laidOutB Tryz.prog = true := by kernel_rfl
theorem ref_keyed : Maps.Keyed Tryz.prog 63 := Maps.Keyed.of_law (deep_law_gate laidOut (by rw [nty]; decide) (Nat.lt_of_lt_of_eq (by decide) nty.symm) (by kernel_rfl) (by rw [Tryz.underlying63]))
def refsM (l : List (Int × Int)) : List (Value × D) := l.map fun r => (refV r, .v (.bool true))
def refsI (l : List (Int × Int)) : Prop := ∀ r ∈ l, isI r.1 ∧ isI r.2
theorem refs_keys {l : List (Int × Int)} (h : refsI l) : KeysOk Tryz.prog 63 (refsM l) := by
 intro p hp
 obtain ⟨r, hr, rfl⟩ := List.mem_map.1 hp
 exact ref_key (h r hr).1 (h r hr).2
def addRef (l : List (Int × Int)) (r : Int × Int) : List (Int × Int) := if r ∈ l then l else l ++ [r]
theorem refs_put (l : List (Int × Int)) (r : Int × Int) : PutOk (refsM l) (refV r) (.v (.bool true)) (refsM (addRef l r)) := by
 unfold addRef
 split
 ·rename_i h
  obtain ⟨a, b, rfl⟩ := List.append_of_mem h
  exact .inl ⟨refsM a, .v (.bool true), refsM b, by simp [refsM], by simp [refsM]⟩
 ·rename_i h
  refine .inr ⟨fun p hp e => h ?_, by simp [refsM]⟩
  obtain ⟨s, hs, rfl⟩ := List.mem_map.1 hp
  rw [← refV_inj e]; exact hs
theorem refs_get (l : List (Int × Int)) (r : Int × Int) : GetOk (refsM l) (refV r) (.v (.bool false)) (.v (.bool (decide (r ∈ l)))) := by
 by_cases h : r ∈ l
 ·obtain ⟨a, b, e⟩ := List.append_of_mem h
  refine .inl ⟨refsM a, refsM b, ?_⟩
  rw [decide_eq_true h, e]
  simp [refsM]
 ·refine .inr ⟨fun p hp e => h ?_, by rw [decide_eq_false h]⟩
  obtain ⟨s, hs, rfl⟩ := List.mem_map.1 hp
  rw [← refV_inj e]; exact hs
theorem addRef_in {l : List (Int × Int)} {r s : Int × Int} : s ∈ addRef l r ↔ s ∈ l ∨ s = r := by
 unfold addRef
 split
 ·rename_i h
  exact ⟨.inl, fun h' => h'.elim id fun e => e ▸ h⟩
 ·simp
theorem refsI_add {l : List (Int × Int)} {r : Int × Int} (h : refsI l) (h1 : isI r.1) (h2 : isI r.2) : refsI (addRef l r) := fun s hs => by
 rcases addRef_in.1 hs with h' | rfl
 ·exact h s h'
 ·exact ⟨h1, h2⟩
theorem ref_leq (a b : Int) : Leq (.agg [.d (.v (.int .i64 a)), .d (.v (.int .i64 b))]) (.d (.v (refV (a, b)))) := fun w I β v hv => by
 obtain ⟨vs, rfl, x, vs1, rfl, h1, y, vs2, rfl, h2, h3⟩ := hv
 have h3 : vs2 = [] := h3
 subst h3
 rw [DenA_v] at h1 h2
 subst h1; subst h2
 exact DenA_v.2 rfl
theorem ref_leqD (a b : Int) : Leq (.d (.agg [.v (.int .i64 a), .v (.int .i64 b)])) (.d (.v (refV (a, b)))) := (Leq.ofAgg _).trans (ref_leq a b)
end Go.Proofs.YtnljenjcaeophaaGreatDoor
