/-
  The engine: a row of the call's own put into a map, as data from then on; data against nil.
-/
import Derived.Test.YtnljenjcaeophaaGreatDoorWEngMa
import Derived.Test.YtnljenjcaeophaaGreatDoorWZI
import Derived.Test.YtnljenjcaeophaaGreatDoorW8
set_option linter.unusedVariables false
set_option linter.unusedSimpArgs false
set_option linter.unusedSectionVars false
namespace Go.Xe
open Go.RowKit
variable [Glob]
theorem kE_ {P : Program} {τ : Tab} (hτ : as_ P τ) {ds : Dn} {pn : Pn} {o : Oper} {S : St} {T T' E : TypeId} {x y : Operand} {sz1 b1 : Nat} {z1 : List Value} (ho : o.op = .binOp .eql T x y T') (ht : τ T = some ⟨.slice E, sz1, b1, z1⟩)
  {sz n : Nat} {cs : List D} {full : Bool} (hx : S.ev x = .d (.sl sz cs n full)) (hy : S.ev y = .d (.v (.slice none 0 0))) (hn : 0 < n) :
  LCore P ds pn o S ⟨.d (.v (.bool false)), [], [], []⟩ [] := by
 intro S1 hs hf
 have ex := hs.1 x (by simp [ho, Op.operands])
 have ey := hs.1 y (by simp [ho, Op.operands])
 rw [← ex] at hx
 rw [← ey] at hy
 obtain ⟨d, hu, hk⟩ := (hτ T _ ht).und
 simp only [TK.ok] at hk
 subst hk
 refine Core.value fun w0 I0 F I β a w hr => ⟨.bool false, ?_, DenA_v.2 rfl⟩
 have hv := hr.ev x
 have hv2 := hr.ev y
 rw [hx, DenA, Den] at hv
 rw [hy, DenA_v] at hv2
 obtain ⟨q, cap, hxe, _, _, _, _, hnil, _⟩ := hv
 cases q with
 | none => have := (hnil rfl).1; omega
 | some ad =>
  have h := dZ_ (w := w) (x := x) (y := y) hu (some ad) n cap
  simp [execOp, ho, hxe, hv2, h.1, h.2]
theorem iC_ {P : Program} {τ : Tab} (hτ : as_ P τ) {ds : Dn} {pn : Pn} {o : Oper} {S : St} {acc : List TI} {rest : St → List TI → Prop} {T T' E : TypeId} {x y : Operand} {sz1 b1 : Nat} {z1 : List Value} (ho : o.op = .binOp .eql T x y T') (ht : τ T = some ⟨.slice E, sz1, b1, z1⟩)
  {sz n : Nat} {cs : List D} {full : Bool} (hx : S.ev x = .d (.sl sz cs n full)) (hy : S.ev y = .d (.v (.slice none 0 0))) (hn : 0 < n)
  (h : rest (S.app o.dst ⟨.d (.v (.bool false)), [], [], []⟩) (⟨⟨.d (.v (.bool false)), [], [], []⟩, []⟩ :: acc)) : vcStop P ds pn o rest S acc :=
 ⟨_, _, kE_ hτ ho ht hx hy hn, trivial, h⟩
end Go.Xe
