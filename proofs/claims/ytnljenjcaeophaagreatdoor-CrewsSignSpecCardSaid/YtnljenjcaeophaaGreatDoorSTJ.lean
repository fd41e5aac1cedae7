/-
  Joined texts.
-/
import Derived.Test.YtnljenjcaeophaaGreatDoorSTA
import Derived.Test.YtnljenjcaeophaaGreatDoorST
import Derived.Test.YtnljenjcaeophaaGreatDoorSTE
import Derived.Test.YtnljenjcaeophaaGreatDoorSXa
set_option linter.unusedVariables false
set_option linter.unusedSimpArgs false
set_option linter.unusedSectionVars false
namespace Go.Proofs.YtnljenjcaeophaaGreatDoor
open Go.Xe Go.RowKit
set_option maxRecDepth 10000 in
theorem refNode_ok (hsum : ∀ b : List UInt8, b.length ≤ 100000 → Fn0 Tryz.prog 190 [slB b] (dD (sumB b))) (a b : Dg) (ha : a.length = 32) (hb : b.length = 32) : Fn0 Tryz.prog 185 [dD a, dD b] (dD (nodeB a b)) := by
 have ht := refTag_ok hsum ⟨#[110, 111, 100, 101]⟩ (by decide) (a ++ b) (by simp; omega)
 rw [show (⟨#[110, 111, 100, 101]⟩ : ByteArray).data.toList = tB "node" by decide +kernel, show tagB (tB "node") (a ++ b) = nodeB a b from rfl] at ht
 have ho : (nodeB a b).length = 32 := nodeB_len _ _
 have hlen : (a ++ b).length = 64 := by simp; omega
 have eb : bys (a ++ b) = bys a ++ bys b := by rw [bys, bys, bys, List.map_append]
 rw [slB, hlen] at ht
 generalize nodeB a b = r at *
 have htr : Fun Tryz.prog 129 [.d (.v (.string ⟨#[110, 111, 100, 101]⟩)), .row 1000] [(1000, .row 5 1 64 ((bys (a ++ b)).map .d))] (.d (dD r)) [] fun _ => False := Fun.ofRow 1000 (T := 5) (cs := bys (a ++ b)) (args' := [.d (.v (.string ⟨#[110, 111, 100, 101]⟩)), .row 1000]) (bi' := [(1000, .row 5 1 64 ((bys (a ++ b)).map .d))]) ht rfl rfl trivial
 refine Fun.of_wp (pn := noPn) Tryz.tab Tryz.func185 rfl fun β0 => ?_
 simp only [Tryz.f185]
 refine WP.seq ?_
 refine WP.region Tryz.tab ?_
 simp -dsimp [dD, bys_len, ha, hb]
 refine And.intro (fun a h => bysD_one h) ?_
 refine And.intro (fun a h => bysD_one h) ?_
 refine WP.weak (Wk.freezeC (k := 2) (T := 102) (ds := bys a) (by simp [bys_len, ha])) ?_
 simp -dsimp [fzcL, fzc, fzcBx, fzcB]
 refine WP.weak (Wk.freezeC (k := 3) (T := 102) (ds := bys b) (by simp [bys_len, hb])) ?_
 simp -dsimp [fzcL, fzc, fzcBx, fzcB]
 repeat(first|apply wG|(apply wR;simp -dsimp)|refine aI ?_)
 refine vcStop.sliceIp Tryz.tab rfl rfl rfl rfl (by simp [bys_len, ha]) (by decide) rfl ?_
 simp -dsimp [bys_t32, ha]
 repeat(first|apply wG|(apply wR;simp -dsimp [bys_len, ha])|refine aI ?_)
 refine vcStop.sliceIp Tryz.tab rfl rfl rfl rfl (by simp [bys_len, hb]) (by decide) rfl ?_
 simp -dsimp [bys_t32, ha, hb]
 repeat(first|apply wG|(apply wR;simp -dsimp [bys_len, ha, hb])|refine aI ?_)
 refine vcStop.call Tryz.body129 (htr) (rl [(1000, 9)]) rfl rfl (by simp [eb, BoxLeq]) (CallOk.of (by simp [eb, BoxLeq]) rfl (by first | rfl | (simp [eb, BoxLeq]; done)) (by simp [eb, BoxLeq]) (by simp [eb, BoxLeq])) (fun _ h => h.elim) (fun ⟨_, h⟩ => h.elim) (fun ⟨_, h⟩ => h.elim) (by simp [eb, BoxLeq]) ?_
 simp -dsimp [dD]
 refine And.intro ⟨ho, fun a h => bysD_one h⟩ ?_
 repeat(first|apply wG|(apply wR;simp -dsimp [bys_len, ho])|refine aI ?_)
 refine WP.ret (finQ.retE ?_)
 simp -dsimp [setL_whole, bys_len, ho, bysA_take]
 exact Leq.aggD _
end Go.Proofs.YtnljenjcaeophaaGreatDoor
namespace Go.Proofs.YtnljenjcaeophaaGreatDoor
open Go.Xe Go.RowKit
end Go.Proofs.YtnljenjcaeophaaGreatDoor
