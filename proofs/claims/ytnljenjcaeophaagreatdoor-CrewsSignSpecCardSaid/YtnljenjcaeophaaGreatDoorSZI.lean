/-
  The engine: a part of a row of the call's own, looked into while the row is written.
-/
import Derived.Test.YtnljenjcaeophaaGreatDoorS8
import Derived.Laws.Cover3
set_option linter.unusedVariables false
set_option linter.unusedSimpArgs false
set_option linter.unusedSectionVars false
namespace Go.Xe
open Go.RowKit
variable [Glob]
theorem run_eqNilS {P : Program} {w : World} {T E : TypeId} {x y : Operand} (hu : P.underlying T = some (.slice E)) (a : Option Addr) (l c : Nat) :
  (eqGuard .eql T x y (.slice a l c) (.slice none 0 0)).run P w = .ok () w ∧ (binOp .eql T (.slice a l c) (.slice none 0 0)).run P w = .ok (.bool a.isNone) w := by
 refine ⟨rfl, ?_⟩
 simp only [binOp]
 simp [run_equal_slice_nil w T E a l c hu]
theorem LCore.eqNilNil {P : Program} {τ : Tab} (hτ : TabOk P τ) {ds : Dn} {pn : Pn} {o : Oper} {S : St} {T T' E : TypeId} {x y : Operand} {sz1 b1 : Nat} {z1 : List Value} (ho : o.op = .binOp .eql T x y T') (ht : τ T = some ⟨.slice E, sz1, b1, z1⟩)
  (hx : S.ev x = .d (.v (.slice none 0 0))) (hy : S.ev y = .d (.v (.slice none 0 0))) :
  LCore P ds pn o S ⟨.d (.v (.bool true)), [], [], []⟩ [] := by
 intro S1 hs hf
 have ex := hs.1 x (by simp [ho, Op.operands])
 have ey := hs.1 y (by simp [ho, Op.operands])
 rw [← ex] at hx
 rw [← ey] at hy
 obtain ⟨d, hu, hk⟩ := (hτ T _ ht).und
 simp only [TK.ok] at hk
 subst hk
 refine Core.value fun w0 I0 F I β a w hr => ⟨.bool true, ?_, DenA_v.2 rfl⟩
 have hv := hr.ev x
 have hv2 := hr.ev y
 rw [hx, DenA_v] at hv
 rw [hy, DenA_v] at hv2
 have h := run_eqNilS (w := w) (x := x) (y := y) hu none 0 0
 simp [execOp, ho, hv, hv2, h.1, h.2]
theorem vcStop.eqNilNil {P : Program} {τ : Tab} (hτ : TabOk P τ) {ds : Dn} {pn : Pn} {o : Oper} {S : St} {acc : List TI} {rest : St → List TI → Prop} {T T' E : TypeId} {x y : Operand} {sz1 b1 : Nat} {z1 : List Value} (ho : o.op = .binOp .eql T x y T') (ht : τ T = some ⟨.slice E, sz1, b1, z1⟩)
  (hx : S.ev x = .d (.v (.slice none 0 0))) (hy : S.ev y = .d (.v (.slice none 0 0)))
  (h : rest (S.app o.dst ⟨.d (.v (.bool true)), [], [], []⟩) (⟨⟨.d (.v (.bool true)), [], [], []⟩, []⟩ :: acc)) : vcStop P ds pn o rest S acc :=
 ⟨_, _, LCore.eqNilNil hτ ho ht hx hy, trivial, h⟩
end Go.Xe
