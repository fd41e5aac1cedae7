/-
  Joined texts.
-/
import Derived.Test.YtnljenjcaeophaaGreatDoorKD
import Derived.Test.YtnljenjcaeophaaGreatDoorKVC
import Derived.Test.YtnljenjcaeophaaGreatDoorKZI
import Derived.Test.YtnljenjcaeophaaGreatDoorK8
import Derived.Shelf.SlSortCmp.Whole1
set_option maxRecDepth 10000
set_option linter.unusedVariables false
set_option linter.unusedSimpArgs false
set_option linter.unusedSectionVars false
namespace Go.Proofs.YtnljenjcaeophaaGreatDoor
open Go.Xe Go.RowKit
def rfC (o : List R2) : List D := o.flatMap fun r => [.v (.int .i64 r.1), .v (.int .i64 r.2)]
@[simp] theorem rfC_len : ∀ o : List R2, (rfC o).length = o.length * 2
 | [] => rfl
 | r :: o => by rw [show rfC (r :: o) = [.v (.int .i64 r.1), .v (.int .i64 r.2)] ++ rfC o from rfl, List.length_append, rfC_len o, List.length_cons]; simp; omega
theorem rfC_append (a b : List R2) : rfC (a ++ b) = rfC a ++ rfC b := by simp [rfC]
theorem rfC_tags (o : List R2) : AV.tagsL ((rfC o).map .d) = [] := by
 generalize rfC o = l
 induction l with
 | nil => rfl
 | cons x l ih => simp only [List.map_cons, AV.tagsL, AV.tags, ih]; rfl
abbrev rfB (o : List R2) : Box := .row 63 2 o.length ((rfC o).map .d)
def bsK : List R2 → Bxs
 | [] => [(1100, .cells 32 [.d nilD])]
 | r :: o => [(1100, .cells 32 [.row 505]), (505, rfB (r :: o))]
theorem bsK_singles (o : List R2) : singles (bsK o) := by
 intro k b h
 cases o <;> simp only [bsK, getB] at h <;> (repeat' split at h) <;> cases h <;> rfl
set_option maxHeartbeats 4000000 in
theorem appendR_ok (M : List R2) (hnd : M.Nodup) (hl : M.length ≤ 1000) : FunX Tryz.prog 202 [.d nilD, .fn (.func 158) [] [.ptr 1000 0]] [(1000, .cells 110 [.row 1001]), (1001, .mp (refsM M))] (α := {o : List R2 // o.Perm M}) (fun _ => .row 0) (fun o => [(1000, .cells 110 [.row 1001]), (1001, .mp (refsM M)), (0, rfB o.1)]) := by
 refine FunX.of_wpR Tryz.tab Tryz.func202 rfl fun β0 => ?_
 simp only [Tryz.f202]
 repeat(first|apply wG|(apply wR;simp -dsimp)|refine aI ?_)
 refine WP.rangeFuncXE Tryz.body158 (keysR_it M hnd) bsK (mkS 13 [(2, .ptr 1100 0)] []).sl 990 (rl [(1000, 1000), (1001, 1001), (1100, 2), (505, 700), (990, 602)]) rfl rfl rfl (by simp) (by simp) (by simp) bsK_singles
  (by
   intro p hp
   refine ⟨by simp at hp; rcases hp with rfl | rfl <;> simp, by simp at hp; rcases hp with rfl | rfl <;> rfl, fun s _ => by simp at hp; rcases hp with rfl | rfl <;> cases s <;> rfl⟩) (by simp) (fun s _ => by cases s <;> simp [bsK, rfC_tags]) (by simp) (by decide) (fun s _ => by cases s <;> rfl) (fun s x s' h => by obtain ⟨r, _, _, _, hx, _⟩ := h; rw [hx]; rfl) ?_ ?_ ?_ ?_ ?_
 ·rintro s _ _ ⟨r, hr, hrs, hsl, rfl, rfl⟩ lp β1
  cases s with
  | nil =>
   simp -dsimp [bsK]
   repeat(first|apply wG|(apply wR;simp -dsimp)|refine aI ?_)
   exact ⟨mkS 13 [] (bsK [r]), Wk.go [5, 10] 11 505 (by decide) (by simp) (by simp) (by simp [bsK, rfC]), subB_ok (by simp [bsK])⟩
  | cons q o =>
   have hol : o.length + 1 ≤ 1000 := by simp only [List.length_cons] at hsl; omega
   simp -dsimp [bsK]
   repeat(first|apply wG|(apply wR;simp -dsimp)|refine aI ?_)
   exact ⟨mkS 13 [] (bsK (q :: o ++ [r])), Wk.go [5, 10, 505] 11 505 (by decide) (by simp) (by simp) (by simp [bsK, rfC]), subB_ok (by simp [bsK])⟩
 ·exact CallOk.of (by simp [bsK]) (by simp [bsK]) (by simp [bsK]) (by simp [bsK]) (by simp [bsK])
 ·intro G s hE
  refine CallOk.of (by simp [bsK]) (by cases s <;> simp [bsK]) (by cases s <;> simp [bsK]) (by cases s <;> simp [bsK]) (by cases s <;> simp [bsK, rfC_tags])
 ·intro G s hE
  cases s <;> simp [bsK]
 ·intro G o hE
  cases o with
  | nil =>
   simp -dsimp [bsK]
   repeat(first|apply wG|(apply wR;simp -dsimp)|refine aI ?_)
   refine WP.ret (finXR.of ⟨[], hE⟩ (finQR.retW (S' := ⟨(mkS 13 [(4, .row 0)] []).sl, [(1000, .cells 110 [.row 1001]), (1001, .mp (refsM M)), (0, rfB []), (602, .obj G (.deferred (some [])))], [G]⟩) ((Wk.lessE [] (S' := ⟨(mkS 13 [(4, .d nilD)] []).sl, [(1000, .cells 110 [.row 1001]), (1001, .mp (refsM M)), (602, .obj G (.deferred (some [])))], [G]⟩) (by simp) (by simp)).trans ((Wk.nilSlot 4 0 63 2 (by simp) (by simp)).trans (Wk.lessE [] (by simp) (by simp [rfC])))) ?_ G 602 rfl rfl rfl))
   simp -dsimp
  | cons r o =>
   simp -dsimp [bsK]
   repeat(first|apply wG|(apply wR;simp -dsimp)|refine aI ?_)
   refine WP.ret (finXR.of ⟨r :: o, hE⟩ (finQR.retW (S' := ⟨(mkS 13 [(4, .row 0)] []).sl, [(1000, .cells 110 [.row 1001]), (1001, .mp (refsM M)), (0, rfB (r :: o)), (602, .obj G (.deferred (some [])))], [G]⟩) (Wk.go [2] 700 0 (by decide) (by simp) (by simp) (by simp)) ?_ G 602 rfl rfl rfl))
   simp -dsimp
theorem collectR_ok (M : List R2) (hnd : M.Nodup) (hl : M.length ≤ 1000) : FunX Tryz.prog 156 [.fn (.func 158) [] [.ptr 1000 0]] [(1000, .cells 110 [.row 1001]), (1001, .mp (refsM M))] (α := {o : List R2 // o.Perm M}) (fun _ => .row 0) (fun o => [(1000, .cells 110 [.row 1001]), (1001, .mp (refsM M)), (0, rfB o.1)]) := by
 refine FunX.of_wp Tryz.tab Tryz.func156 rfl fun β0 => ?_
 simp only [Tryz.f156]
 refine WP.seq ?_
 refine WP.region Tryz.tab ?_
 simp -dsimp
 repeat refine aI ?_
 refine WP.seq ?_
 refine WP.cut1 Tryz.tab rfl ?_
 simp -dsimp
 refine vcX.callX Tryz.body202 (appendR_ok M hnd hl) (rl [(1000, 1000), (1001, 1001), (0, 600)]) rfl rfl (by simp) (CallOk.of (by simp [BoxLeq]) rfl (by first | rfl | (simp; done)) (by simp) (by simp)) (fun x => CallOk.of (by simp [BoxLeq]) rfl (by first | rfl | (simp; done)) (by simp) (by simp)) (fun x => by simp) (fun x => ?_)
 obtain ⟨o, ho⟩ := x
 refine ⟨_, Wk.refl _, ?_⟩
 simp -dsimp
 refine WP.ret (finX.ret ⟨o, ho⟩ (finQ.retWE (S' := mkS 5 [(2, .row 0)] [(1000, .cells 110 [.row 1001]), (1001, .mp (refsM M)), (0, rfB o)]) (Wk.go [] 600 0 (by decide) (by simp) (by simp) (by simp)) ?_))
 simp -dsimp
end Go.Proofs.YtnljenjcaeophaaGreatDoor
namespace Go.Xe
open Go.RowKit Go.Sort Go.Shelf
variable [Glob]
section
variable {α : Type} [Inhabited α]
end
end Go.Xe
