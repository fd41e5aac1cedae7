/-
  The engine: a row of the call's own whose block and room are told; its parts; copy; zeros appended where there is no room; whether two slices overlap.
-/
import Derived.Test.YtnljenjcaeophaaGreatDoorTZI
import Derived.Test.YtnljenjcaeophaaGreatDoorTVC
import Derived.Lib.AppendZerosOnto
import Derived.Lib.Overlaps
set_option linter.unusedVariables false
set_option linter.unusedSimpArgs false
set_option linter.unusedSectionVars false
namespace Go.Xe
open Go.RowKit
variable [Glob]
def ExP (T : TypeId) (sz g n c : Nat) (xs : List D) (y : Value) (w : World) (I : Nat → Prop) : Prop :=
 y = .slice (some ⟨g, 0, none⟩) n c ∧ n ≤ c ∧ c ≤ maxLen ∧ ∃ (cur : Array Value) (us : List Value), w.heap[g]? = some (.cells cur T (0, 0)) ∧ cur.size = c * sz ∧ cur.toList.take us.length = us ∧ Dens w I xs us ∧ ∀ u ∈ us, u.oneCell' = true
def Ex (T : TypeId) (sz g n c : Nat) (xs : List D) : Box := .opq (ExP T sz g n c xs)
section
variable {T : TypeId} {sz g n c : Nat} {xs : List D} {w : World} {I : Nat → Prop} {β : Nat → Value} {y : Value}
theorem Ex.out (h : BoxRel w I β y (Ex T sz g n c xs)) : ExP T sz g n c xs y w I := by
 obtain ⟨w1, I1, ⟨rfl, hn, hc, cur, us, hg, hs, htk, hd, ho⟩, hk, hb⟩ := h
 refine ⟨rfl, hn, hc, cur, us, ?_, hs, htk, Dens.mono hk _ _ hd, ho⟩
 rw [(hb g (.inl rfl)).2]; exact hg
theorem Ex.in (h : ExP T sz g n c xs y w I) : BoxRel w I β y (Ex T sz g n c xs) := by
 refine ⟨w, I, h, .refl w I, fun m hm => ⟨?_, rfl⟩⟩
 obtain ⟨rfl, _, _, cur, us, hg, _⟩ := h
 have e : m = g := Blk.one rfl hm
 subst e
 exact (Array.getElem?_eq_some_iff.1 hg).1
end
def exA (k : Nat) (v : Value) : AV → AV
 | .row j => if j = k then .d (.v v) else .row j
 | x => x
theorem Dens.take' {w : World} {I : Nat → Prop} : ∀ {cs : List D} {vs : List Value} (_ : Dens w I cs vs) (n : Nat), Dens w I (cs.take n) (vs.take n) := fun h n => by
 have := (DenAs.of_dens (β := fun _ => undef) h).take n
 rw [← List.map_take] at this
 exact this.to_dens
theorem Dens.drop' {w : World} {I : Nat → Prop} : ∀ {cs : List D} {vs : List Value} (_ : Dens w I cs vs) (n : Nat), Dens w I (cs.drop n) (vs.drop n) := fun h n => by
 have := (DenAs.of_dens (β := fun _ => undef) h).drop n
 rw [← List.map_drop] at this
 exact this.to_dens
theorem exA_den {w : World} {I : Nat → Prop} {β : Nat → Value} {k : Nat} {v : Value} (hk : β k = v) : ∀ {l : List AV} {vs : List Value}, DenAs w I β l vs → DenAs w I β (l.map (exA k v)) vs
 | [], _, h => h
 | x :: l, vs, h => by
  obtain ⟨y, ys, rfl, h1, h2⟩ := h
  refine ⟨y, ys, rfl, ?_, exA_den hk h2⟩
  cases x with
  | row j =>
   show DenA w I β (if j = k then .d (.v v) else .row j) y
   split
   ·rename_i e
    subst e
    rw [DenA] at h1
    rw [DenA_v, h1.1, hk]
   ·exact h1
  | d _ => exact h1
  | ptr _ _ => exact h1
  | agg _ => exact h1
  | tup _ => exact h1
  | fn _ _ _ => exact h1
  | rptr _ _ => exact h1
  | psl _ _ _ _ => exact h1
  | rsl _ _ _ => exact h1
  | iface _ _ => exact h1
  | _          => exact h1
theorem Opn.ex {S : St} {k : Nat} {T : TypeId} {sz n : Nat} {xs : List D} (hb : getB S.bx k = some (.row T sz n (xs.map .d))) (hn : 0 < n) :
  Opn (α := {p : Nat × Nat // n ≤ p.2 ∧ p.2 ≤ maxLen}) S fun p => ⟨S.sl.map (exA k (.slice (some ⟨p.1.1, 0, none⟩) n p.1.2)), setB S.bx k (Ex T sz p.1.1 n p.1.2 xs), S.df⟩ := fun ds w0 I0 F I β a w hr => by
 obtain ⟨vs, ⟨hl, how⟩, hd, ho⟩ := hr.mem.bxs k _ hb
 rcases how with ⟨_, h0⟩ | ⟨g, cap, cur, hyv, hz0, hg, hnc, hcm, hcs, htk⟩
 ·omega
 refine ⟨⟨(g, cap), hnc, hcm⟩, I, β, ?_⟩
 have h1 := hr.say hb (b' := Ex T sz g n cap xs) (Ex.in ⟨hyv, hnc, hcm, cur, vs, hg, by simpa using hcs, by rw [hl]; exact htk, hd.to_dens, ho⟩)
 exact ⟨h1.mem, exA_den hyv hr.sl, hr.dn, hr.fx⟩
/-! ### its room, its parts -/
theorem cell_of_cells {w : World} {g : Nat} {cur : Array Value} {T : TypeId} (hg : w.heap[g]? = some (.cells cur T (0, 0))) (j : Nat) : w.cell? ⟨g, j, none⟩ = cur[j]? := by simp [World.cell?, hg]
/-! ### zeros appended to a part of it, where there is no room -/
/-! ### copy -/
def CpSrc (S : St) (y : Operand) (fp : List Nat) (m : Nat) (ys : List D) : Prop := ∀ S1, S1.ev y = S.ev y → (∀ k ∈ fp, getB S1.bx k = getB S.bx k) → ∀ ds w0 I0 F I β a w, Rel ds w0 I0 F S1 I β a w →
 ∃ ad sc us, a.eval y = .slice (some ad) m sc ∧ Dens w I ys us ∧ (∀ j v, us[j]? = some v → w.cell? (ad.add j) = some v) ∧ ∀ u ∈ us, u.oneCell' = true
theorem CpSrc.ex {S : St} {y : Operand} {k : Nat} {T : TypeId} {sz g off n c m c' : Nat} {xs : List D} (hy : S.ev y = .d (.v (.slice (some ⟨g, off, none⟩) m c'))) (hb : getB S.bx k = some (Ex T sz g n c xs)) : CpSrc S y [k] m (xs.drop off) := fun S1 ey eb ds w0 I0 F I β a w hr => by
 obtain ⟨e, hnc, hcm, cur, us, hg, hcs, htk, hd, ho⟩ := Ex.out (hr.mem.bxs k _ ((eb k (by simp)).trans hb))
 have hv := hr.ev y
 rw [ey, hy, DenA_v] at hv
 refine ⟨_, _, us.drop off, hv, hd.drop' off, fun j v hj => ?_, fun u hu => ho u (List.mem_of_mem_drop hu)⟩
 rw [Addr.add_lit, cell_of_cells hg, ← Array.getElem?_toList]
 rw [List.getElem?_drop] at hj
 rw [← htk, List.getElem?_take] at hj
 split at hj
 ·exact hj
 ·cases hj
theorem CpSrc.row {S : St} {y : Operand} {k : Nat} {T : TypeId} {sz m : Nat} {ys : List D} (hy : S.ev y = .row k) (hb : getB S.bx k = some (.row T sz m (ys.map .d))) (hm : 0 < m) : CpSrc S y [k] m ys := fun S1 ey eb ds w0 I0 F I β a w hr => by
 obtain ⟨vs, how, hd, ho⟩ := hr.mem.bxs k _ ((eb k (by simp)).trans hb)
 have hv := hr.ev y
 rw [ey, hy, DenA] at hv
 rcases how.2 with ⟨_, h0⟩ | ⟨g, cap, cur, hyv, _⟩
 ·omega
 ·exact ⟨_, cap, vs, by rw [hv.1]; exact hyv, hd.to_dens, how.cells (g := g) (by rw [hyv]; rfl), ho⟩
/-! ### do two slices overlap? (the model answers itself) -/
end Go.Xe
