/-
  The engine: two arrays of numbers, compared.
-/
import Derived.Test.YtnljenjcaeophaaGreatDoorWEX
set_option linter.unusedVariables false
set_option linter.unusedSimpArgs false
set_option linter.unusedSectionVars false
namespace Go.Xe
open Go.RowKit
variable [Glob]
theorem fp_ {α : Type} {s : Nat} : ∀ (l : List (List α)), (∀ x ∈ l, x.length = s) → ∀ (i : Nat) (x : List α), l[i]? = some x → (l.flatten.drop (i * s)).take s = x
 | [], _, i, x, h => by simp at h
 | a :: l, hl, 0, x, h => by
  simp only [List.getElem?_cons_zero, Option.some.injEq] at h
  subst h
  rw [Nat.zero_mul, List.drop_zero, List.flatten_cons, List.take_left' (hl a (by simp))]
 | a :: l, hl, i + 1, x, h => by
  rw [List.getElem?_cons_succ] at h
  rw [List.flatten_cons, show (i + 1) * s = a.length + i * s by rw [hl a (by simp), Nat.add_mul]; omega, List.drop_append, List.drop_of_length_le (by omega), Nat.add_sub_cancel_left, List.nil_append]
  exact fp_ l (fun y hy => hl y (by simp [hy])) i x h
section
variable {P : Program} {τ : Tab} {w : World} {I : Nat → Prop}
theorem h4_ (hτ : as_ P τ) {L : List TypeId} (hL : gOk τ L = true) (hA : L.all (fun t => hX_ (τ t)) = true) {T k e byt q n : Nat} {z : List Value} (ht : τ T = some ⟨.array k e, k * tsz τ e, byt, z⟩) (he : L.contains e = true) (hke : P.keyTypeAt q e = true) {l : List (List D)} (hl : l.length = k)
  (hx : ∀ x ∈ l, OkD τ n e x) {vs : List Value} (hd : Dens w I l.flatten vs) : P.keyLits (n + 1) T vs = some (bf_ l.flatten) ∧ vs.length = P.cellsOf T := by
 obtain ⟨dsc, hu, hok⟩ := (hτ T _ ht).und
 simp only [TK.ok] at hok
 subst hok
 have hte : ∃ te, τ e = some te := by
  have := List.all_eq_true.1 hL e (by simpa using he)
  unfold nw_ at this
  cases hte : τ e with
  | none => rw [hte] at this; cases this
  | some te => exact ⟨te, rfl⟩
 obtain ⟨te, hte⟩ := hte
 have hce := aR_ (hτ e te hte) hte
 have hcT := aR_ (hτ T _ ht) ht
 have hlx : ∀ x ∈ l, x.length = tsz τ e := fun x hxl => hW_ hL n e x he (hx x hxl)
 have hfl : l.flatten.length = k * tsz τ e := by rw [eE_ l fun i x h => hlx x (List.mem_of_getElem? h), hl]
 have hvl : vs.length = P.cellsOf T := by
  rw [hcT, ← Dens.length hd, hfl]
  show _ = (match τ T with | some e => e.size | none => 0)
  rw [ht]
 refine ⟨?_, hvl⟩
 unfold Program.keyLits
 simp only [hu]
 rw [if_pos hvl, hZ_ (r := l.map bf_) (by simp [hl]) fun i x y hi hy => ?_]
 ·rw [Option.map_some, c5_]
 ·rw [List.getElem?_map] at hy
  obtain ⟨c, hc, rfl⟩ := Option.map_eq_some_iff.1 hy
  have hix : x = i := by
   rw [List.getElem?_range (by
    have := (List.getElem?_eq_some_iff.1 hc).1
    omega)] at hi
   exact (Option.some.inj hi).symm
  subst hix
  have hdc := (hd.drop' (x * tsz τ e)).take' (tsz τ e)
  rw [fp_ l hlx x c hc] at hdc
  rw [hce]
  exact c6_ hτ hL hA n e q c _ hke he (hx c (List.mem_of_getElem? hc)) hdc
theorem mL_ (hτ : as_ P τ) {L : List TypeId} (hL : gOk τ L = true) (hA : L.all (fun t => hX_ (τ t)) = true) {ds : Dn} {pn : Pn} {o : Oper} {S : St} {op : BinOp} {T T' : TypeId} {x y : Operand}
  (ho : o.op = .binOp op T x y T') (hop : op = .eql ∨ op = .neq) {q : Nat} (hm : q + 1 ≤ 10000) {k e byt : Nat} {z : List Value} (ht : τ T = some ⟨.array k e, k * tsz τ e, byt, z⟩) (hke : P.keyTypeAt q e = true) (he : L.contains e = true) (hgd : P.eqGuardType P.depth T = false)
  {n n' : Nat} {cs es : List (List D)} (hx : Leq (S.ev x) (.d (.agg cs.flatten))) (hy : Leq (S.ev y) (.d (.agg es.flatten))) (lc : cs.length = k) (le : es.length = k)
  (oka : ∀ c ∈ cs, OkD τ n e c) (okb : ∀ c ∈ es, OkD τ n' e c) {r : Bool} (hr : r = true ↔ bf_ cs.flatten = bf_ es.flatten) : LCore P ds pn o S ⟨.d (.v (.bool (eqRes op r))), [], [], []⟩ [] := by
 intro S1 hs _
 have ex := hs.1 x (by simp [ho, Op.operands])
 have ey := hs.1 y (by simp [ho, Op.operands])
 refine Core.value fun w0 I0 F I β A w hrel => ⟨_, ?_, DenA_v.2 rfl⟩
 have h1 := hrel.ev x
 have h2 := hrel.ev y
 rw [ex] at h1
 rw [ey] at h2
 have h1 := hx _ _ _ _ h1
 have h2 := hy _ _ _ _ h2
 rw [DenA] at h1 h2
 obtain ⟨cs', hc, hda⟩ := h1
 obtain ⟨es', hd, hdb⟩ := h2
 obtain ⟨dsc, hu, hok⟩ := (hτ T _ ht).und
 simp only [TK.ok] at hok
 subst hok
 have hk : P.keyTypeAt (q + 1) T = true := by rw [Program.keyTypeAt, hu]; exact hke
 obtain ⟨k1, k2⟩ := h4_ hτ hL hA ht he hke lc oka hda
 obtain ⟨k3, k4⟩ := h4_ hτ hL hA ht he hke le okb hdb
 have fm : ∀ vs : List Value, vs.length = P.cellsOf T → (Value.agg vs.toArray).formed P T = true := fun vs hv => by
  unfold Value.formed
  rw [hu]
  simp [hv]
 have he := run_equalIn_deep (10000 - (q + 1)) (q + 1) T hk w (n + 1) (n' + 1) (.agg cs'.toArray) (.agg es'.toArray) _ _ (fm cs' k2) (fm es' k4) (by simpa [Value.cells] using k1) (by simpa [Value.cells] using k3)
 rw [show 10000 - (q + 1) + (q + 1) = 10000 by omega] at he
 obtain ⟨r', hr1, hr2⟩ := he
 have : r' = r := by rw [Bool.eq_iff_iff, hr2, hr]
 subst this
 have hr1 : (Op.equal T (.agg cs'.toArray) (.agg es'.toArray)).run P w = .ok r' w := hr1
 rcases hop with rfl | rfl <;> simp [execOp, ho, hc, hd, eqGuard, binOp, hr1, hgd, eqRes]
theorem pj_ (hτ : as_ P τ) {L : List TypeId} (hL : gOk τ L = true) (hA : L.all (fun t => hX_ (τ t)) = true) {ds : Dn} {pn : Pn} {o : Oper} {S : St} {acc : List TI} {rest : St → List TI → Prop} {op : BinOp} {T T' : TypeId} {x y : Operand}
  (ho : o.op = .binOp op T x y T') (hop : op = .eql ∨ op = .neq) {q : Nat} (hm : q + 1 ≤ 10000) {k e byt : Nat} {z : List Value} (ht : τ T = some ⟨.array k e, k * tsz τ e, byt, z⟩) (hke : P.keyTypeAt q e = true) (he : L.contains e = true) (hgd : P.eqGuardType P.depth T = false)
  {n n' : Nat} {cs es : List (List D)} (hx : Leq (S.ev x) (.d (.agg cs.flatten))) (hy : Leq (S.ev y) (.d (.agg es.flatten))) (lc : cs.length = k) (le : es.length = k)
  (oka : ∀ c ∈ cs, OkD τ n e c) (okb : ∀ c ∈ es, OkD τ n' e c) {r : Bool} (hr : r = true ↔ bf_ cs.flatten = bf_ es.flatten) (h : rest (S.put o.dst (.d (.v (.bool (eqRes op r))))) (⟨⟨.d (.v (.bool (eqRes op r))), [], [], []⟩, []⟩ :: acc)) : vcStop P ds pn o rest S acc :=
 ⟨_, _, mL_ hτ hL hA ho hop hm ht hke he hgd hx hy lc le oka okb hr, trivial, h⟩
end
end Go.Xe
