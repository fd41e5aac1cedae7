/-
  Ledgers: the laying of the insertion sort at facts.
-/
import Derived.Test.YtghfancmonhkcaaDoorKKp
import Derived.Test.YtghfancmonhkcaaDoorKEngSs
import Derived.Test.YtghfancmonhkcaaDoorK8
set_option linter.unusedSectionVars false
set_option linter.unusedSimpArgs false
set_option linter.unusedVariables false
namespace Go.Proofs.YtghfancmonhkcaaDoor
open Go.Xe Go.RowKit

def factSortR : Go.Shelf.Ren := ⟨fun n => match n with
  | 20 => 72
  | n => n, fun n => match n with
  | 0 => 0
  | 3 => 3
  | 4 => 4
  | 22 => 26
  | 24 => 54
  | 25 => 28
  | n => n, fun n => n⟩
set_option maxRecDepth 100000 in
theorem factSort_lay : Go.Proofs.SlLaysF0.n20 Tryd.prog factSortR where
  mixed := Tryd.mixed
  f20 := ⟨(Tryd.f72).name, by kernel_rfl, by kernel_rfl⟩
  t0 := Tryd.underlying0
  a0 := Tryd.isAgg0
  z0 := Tryd.sizeOf0
  v0 := Tryd.zeroValue0
  t3 := Tryd.underlying3
  a3 := Tryd.isAgg3
  z3 := Tryd.sizeOf3
  v3 := Tryd.zeroValue3
  t4 := Tryd.underlying4
  a4 := Tryd.isAgg4
  z4 := Tryd.sizeOf4
  v4 := Tryd.zeroValue4
  t22 := Tryd.underlying26
  a22 := Tryd.isAgg26
  z22 := Tryd.sizeOf26
  v22 := Tryd.zeroValue26
  t25 := Tryd.underlying28
  a25 := Tryd.isAgg28
  z25 := Tryd.sizeOf28
  v25 := Tryd.zeroValue28
/-- A fact whose cells are numbers within their kind. -/
abbrev Fk := {f : Nat → Int // fOk f}
theorem fOk0 : fOk f0 := ⟨fun _ => isI0, .inl rfl, fun _ _ => rfl⟩
instance : Inhabited Fk := ⟨⟨f0, fOk0⟩⟩
def fval (f : Nat → Int) (i : Nat) : Value := if i = 54 then .bool (decide (f 54 = 1)) else .int .i64 (f i)
def fvs (x : Fk) : List Value := (List.range' 0 57).map (fval x.1)
theorem fvs_fcs (x : Fk) : (fvs x).map D.v = fcs x.1 0 57 := by
  rw [fvs, fcs, List.map_map]
  refine List.map_congr_left fun i _ => ?_
  show D.v (fval x.1 i) = fcell x.1 i
  unfold fval fcell
  split <;> rfl
theorem rowV_fsC : ∀ l : List Fk, rowV fvs l = (fsC (l.map (·.1))).map .d
  | [] => rfl
  | x :: l => by
    have h := rowV_fsC l
    unfold rowV at *
    rw [List.flatMap_cons, List.map_append, h, List.map_cons, fsC_cons, List.map_append, ← fvs_fcs, List.map_map]
    rfl
def cmpK (x y : Fk) : Int := cmpF x.1 y.1
theorem ltK (x y : Fk) : Go.Proofs.ltOf cmpK x y = decide (cmpF x.1 y.1 < 0) := rfl
theorem swo_cmp : Go.Sort.SWO (Go.Proofs.ltOf cmpK) := by
  have h := cmp_fact
  constructor
  · intro x
    have := h.anti x.1 x.1
    rw [ltK, decide_eq_false_iff_not]
    omega
  · intro x y z h1 h2
    rw [ltK, decide_eq_true_eq] at *
    have a := h.trans x.1 y.1 z.1 (by omega) (by omega)
    by_cases e : cmpF x.1 z.1 = 0
    · have b := h.same x.1 z.1 y.1 e
      have c := h.anti z.1 y.1
      omega
    · omega
  · intro x y z h1 h2
    rw [ltK, decide_eq_false_iff_not] at *
    have a := h.anti x.1 y.1
    have b := h.anti y.1 z.1
    have c := h.trans z.1 y.1 x.1 (by omega) (by omega)
    have d := h.anti x.1 z.1
    omega
/-- The sort of a list of facts. -/
def sortK (l : List Fk) : List Fk := insL cmpK l
theorem insert_ok (l : List Fk) (hl : l.length ≤ 1000000) : Fun Tryd.prog 72 [.row 1000, .d (.v (.int .i64 0)), .d (.v (.int .i64 l.length)), .d (.v (.func (.func 7) #[] #[]))] [(1000, .row 54 57 l.length ((fsC (l.map (·.1))).map .d))] (.d .any) [(1000, .row 54 57 l.length ((fsC ((sortK l).map (·.1))).map .d))] fun _ => False := by
  have h := Fun.insertSort (ρ := factSortR) factSort_lay 57 Tryd.isAgg54 Tryd.sizeOf54 fvs (fun x => by simp [fvs]) (fun x v hv => by
    rw [fvs, List.mem_map] at hv
    obtain ⟨i, _, rfl⟩ := hv
    unfold fval
    split <;> rfl) cmpK (g := 7) (run_enterFn Tryd.body7) (fun x y => by
    have h := factsCompare_ok x.1 y.1 x.2 y.2
    unfold fD at h
    rw [← fvs_fcs x, ← fvs_fcs y] at h
    exact h) l (by omega)
  rw [rowV_fsC, rowV_fsC] at h
  exact h
end Go.Proofs.YtghfancmonhkcaaDoor
