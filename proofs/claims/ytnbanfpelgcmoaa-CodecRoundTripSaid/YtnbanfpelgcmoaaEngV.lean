/-
  The engine, part V. Where ways meet again.
-/
import Derived.Test.YtnbanfpelgcmoaaEngT
namespace Go.Xe
open Go.RowKit

/-- Behind the first of two pieces one state is reached, whatever way was taken. -/
def toQ (S' : St) (Q : Exit → St → Prop) (e : Exit) (S : Kp2 S' Q) : Prop :=
  match e with
  | .normal => Wk S S'
  | e => Q e S
theorem WP.seqTo {P : Program} {ds : Dn} {pn : Pn} {Q : Exit → St → Prop} {S : St} {x y : Code} (S' : St) (h : WP P ds pn x (toQ S' Q) S) (h2 : WP P ds pn y Q S') : WP P ds pn (.seq x y) Q S :=
  WP.seq (WP.mono h fun e S hq => by
    cases e with
    | normal => exact WP.weak hq h2
    | _ => exact hq)
theorem toQ.norm {S S' : St} {Q : Exit → St → Prop} (h : Wk S S') : toQ S' Q .normal S := h
@[simp] theorem toQ_ret {S S' : St} {Q : Exit → St → Prop} : toQ S' Q .ret S = Q .ret S := rfl
@[simp] theorem toQ_exit {S S' : St} {Q : Exit → St → Prop} {id : Nat} : toQ S' Q (.exit id) S = Q (.exit id) S := rfl

/-- Two boxes get other names at once. -/
theorem Wk.go2 (Z : List Nat) (i j i' j' : Nat) {S S' : St} (hne : i ≠ j) (hne' : i' ≠ j') (hj : (St.mk (maskL S.sl S'.sl) (delsF S.bx Z)).has j = false)
    (hj' : (St.mk (renL (r1 i j) (maskL S.sl S'.sl)) (renBx i j (delsF S.bx Z))).has j' = false) (hs : LeqL (renL (r1 i' j') (renL (r1 i j) (maskL S.sl S'.sl))) S'.sl)
    (hb : subB (renBx i' j' (renBx i j (delsF S.bx Z))) S'.bx) : Wk S S' :=
  (Wk.less (maskL_ok _ _) fun _ _ h => getB_delsF h).trans ((Wk.retag i j hne hj).trans ((Wk.retag i' j' hne' hj').trans (Wk.less hs fun k b h => subB_ok hb k b h)))

@[simp] theorem frzL_map (k sz n : Nat) (ds : List D) : ∀ l : List D, frzL k sz n ds (l.map .d) = l.map .d
  | [] => rfl
  | x :: l => by rw [List.map_cons, frzL, frz, frzL_map k sz n ds l]

end Go.Xe
