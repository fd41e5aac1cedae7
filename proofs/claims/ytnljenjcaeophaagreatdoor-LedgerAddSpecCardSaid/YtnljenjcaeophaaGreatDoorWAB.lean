/-
  Joined texts.
-/
import Derived.Test.YtnljenjcaeophaaGreatDoorW0
import Derived.Test.YtnljenjcaeophaaGreatDoorW9
import Derived.Test.YtnljenjcaeophaaGreatDoorWG
import Derived.Test.YtnljenjcaeophaaGreatDoorWM
set_option linter.unusedVariables false
set_option linter.unusedSimpArgs false
set_option linter.unusedSectionVars false
namespace Go.Proofs.YtnljenjcaeophaaGreatDoor
open Go.Xe Go.RowKit
theorem yg_ (f : List Bool) (i : Nat) (h : i < f.length) : ((boD f)[i]?).getD D.any = .v (.bool (f.getD i false)) := by
 simp [boD, List.getD_eq_getElem?_getD, h]
end Go.Proofs.YtnljenjcaeophaaGreatDoor
namespace Go.Proofs.YtnljenjcaeophaaGreatDoor
open Go.Xe Go.RowKit
def qs_ (c : List D) (n : Nat) : List Dg := (List.range n).map fun i => ((c.drop (i * 32)).take 32).map w3_
theorem dv_ {l : List Dg} (h : bi_ l) : qs_ (dgL l) l.length = l := by
 refine oX_ (by simp [qs_]) fun i hi => ?_
 have hi : i < l.length := by simpa [qs_] using hi
 rw [digA, List.getD_eq_getElem?_getD, qs_, List.getElem?_map, List.getElem?_range hi, Option.map_some, Option.getD_some, eo_ h i hi]
 exact tw_ _
def sgK (s : List D) : Int := match s with
 | .v (.int _ k) :: _ => k
 | _ => 0
def zu_ (s : List D) (i : Nat) : List Dg := match s[i]? with
 | some (.sl _ c n _) => qs_ c n
 | _ => []
def sgT (p : Sg) : Prop := ∃ k op cl pa, p.2 = sigC k op cl pa ∧ sigG k op cl pa
def i2_ (l : List Crw) (p : Sg) : Int := u2_ l p.1 (sgK p.2) (zu_ p.2 1) (zu_ p.2 2) (zu_ p.2 3)
theorem mY_ {l : List Crw} {p : Sg} {k : Int} {op cl pa : List Dg} (e : p.2 = sigC k op cl pa) (h : sigG k op cl pa) : i2_ l p = u2_ l p.1 k op cl pa := by
 rw [i2_, e]
 simp only [sigC, slG, sgK, zu_, List.getElem?_cons_succ, List.getElem?_cons_zero]
 rw [dv_ h.ho, dv_ h.hc, dv_ h.hp]
theorem bZ_ (l : List Crw) (hl : ∀ c ∈ l, ec_ c) (hn : l.length ≤ 1000000000000) (p : Sg) (hf : fOk p.1) (hp : sgT p) : Fn0 Tryz.prog 35 [crwD l, sgV p] (.v (.int .i64 (i2_ l p))) := by
 obtain ⟨k, op, cl, pa, e, h⟩ := hp
 rw [mY_ e h, sgV, sgc, e]
 exact lR_ l hl hn p.1 hf k op cl pa h
theorem be_ {p : Sg} (hf : fOk p.1) (h : sgT p) : sgOk p := by
 obtain ⟨k, op, cl, pa, e, _⟩ := h
 refine ⟨hf, by rw [e]; rfl, fun d hd => ?_⟩
 rw [e] at hd
 exact hg_ hd
theorem ol_ {p : Sg} (h : sgOk p) : List.take 4 (List.drop 57 (sgc p)) = p.2 := by
 rw [sgc, List.drop_left' (aq_ _), List.take_of_length_le (by rw [h.2.1]; omega)]
end Go.Proofs.YtnljenjcaeophaaGreatDoor
