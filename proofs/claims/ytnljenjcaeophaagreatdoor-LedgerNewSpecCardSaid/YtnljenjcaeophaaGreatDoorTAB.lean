/-
  Joined texts.
-/
import Derived.Test.YtnljenjcaeophaaGreatDoorT0
import Derived.Test.YtnljenjcaeophaaGreatDoorT9
import Derived.Test.YtnljenjcaeophaaGreatDoorTG
import Derived.Test.YtnljenjcaeophaaGreatDoorTM
set_option linter.unusedVariables false
set_option linter.unusedSimpArgs false
set_option linter.unusedSectionVars false
namespace Go.Proofs.YtnljenjcaeophaaGreatDoor
open Go.Xe Go.RowKit
theorem boD_gE (f : List Bool) (i : Nat) (h : i < f.length) : ((boD f)[i]?).getD D.any = .v (.bool (f.getD i false)) := by
 simp [boD, List.getD_eq_getElem?_getD, h]
end Go.Proofs.YtnljenjcaeophaaGreatDoor
namespace Go.Proofs.YtnljenjcaeophaaGreatDoor
open Go.Xe Go.RowKit
def unDgs (c : List D) (n : Nat) : List Dg := (List.range n).map fun i => ((c.drop (i * 32)).take 32).map unBD
theorem unDgs_dgL {l : List Dg} (h : all32 l) : unDgs (dgL l) l.length = l := by
 refine digA_ext (by simp [unDgs]) fun i hi => ?_
 have hi : i < l.length := by simpa [unDgs] using hi
 rw [digA, List.getD_eq_getElem?_getD, unDgs, List.getElem?_map, List.getElem?_range hi, Option.map_some, Option.getD_some, dgL_at h i hi]
 exact map_unBD _
def sgK (s : List D) : Int := match s with
 | .v (.int _ k) :: _ => k
 | _ => 0
def sgDg (s : List D) (i : Nat) : List Dg := match s[i]? with
 | some (.sl _ c n _) => unDgs c n
 | _ => []
def sgT (p : Sg) : Prop := ∃ k op cl pa, p.2 = sigC k op cl pa ∧ sigG k op cl pa
def vfyS (l : List Crw) (p : Sg) : Int := vfyE l p.1 (sgK p.2) (sgDg p.2 1) (sgDg p.2 2) (sgDg p.2 3)
theorem vfyS_eq {l : List Crw} {p : Sg} {k : Int} {op cl pa : List Dg} (e : p.2 = sigC k op cl pa) (h : sigG k op cl pa) : vfyS l p = vfyE l p.1 k op cl pa := by
 rw [vfyS, e]
 simp only [sigC, slG, sgK, sgDg, List.getElem?_cons_succ, List.getElem?_cons_zero]
 rw [unDgs_dgL h.ho, unDgs_dgL h.hc, unDgs_dgL h.hp]
theorem crwVerifyS_ok (l : List Crw) (hl : ∀ c ∈ l, crOk c) (hn : l.length ≤ 1000000000000) (p : Sg) (hf : fOk p.1) (hp : sgT p) : Fn0 Tryz.prog 35 [crwD l, sgV p] (.v (.int .i64 (vfyS l p))) := by
 obtain ⟨k, op, cl, pa, e, h⟩ := hp
 rw [vfyS_eq e h, sgV, sgc, e]
 exact crwVerify_ok l hl hn p.1 hf k op cl pa h
theorem sgT_ok {p : Sg} (hf : fOk p.1) (h : sgT p) : sgOk p := by
 obtain ⟨k, op, cl, pa, e, _⟩ := h
 refine ⟨hf, by rw [e]; rfl, fun d hd => ?_⟩
 rw [e] at hd
 exact sigC_one hd
theorem sgcT_sig {p : Sg} (h : sgOk p) : List.take 4 (List.drop 57 (sgc p)) = p.2 := by
 rw [sgc, List.drop_left' (fcs_len57 _), List.take_of_length_le (by rw [h.2.1]; omega)]
end Go.Proofs.YtnljenjcaeophaaGreatDoor
