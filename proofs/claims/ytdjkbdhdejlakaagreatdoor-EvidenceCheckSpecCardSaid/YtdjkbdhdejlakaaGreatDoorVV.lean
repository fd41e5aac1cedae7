/-
  Joined texts.
-/
import Derived.Test.YtdjkbdhdejlakaaGreatDoorVD
import Derived.Test.YtdjkbdhdejlakaaGreatDoorVVC
import Derived.Test.YtdjkbdhdejlakaaGreatDoorVZI
import Derived.Test.YtdjkbdhdejlakaaGreatDoorV8
import Derived.Shelf.SlSortCmp.Whole1
set_option maxRecDepth 10000
set_option linter.unusedVariables false
set_option linter.unusedSimpArgs false
set_option linter.unusedSectionVars false
namespace Go.Proofs.YtdjkbdhdejlakaaGreatDoor
open Go.Xe Go.RowKit
def rfC (o:List R2):List D:=o.flatMap fun r=>[.v (.int .i64 r.1),.v (.int .i64 r.2)]
@[simp] theorem cp_:∀ o:List R2,(rfC o).length=o.length*2
 | []=>rfl
 | r::o=>by rw[show rfC (r::o)=[.v (.int .i64 r.1),.v (.int .i64 r.2)]++rfC o from rfl,List.length_append,cp_ o,List.length_cons];simp;omega
theorem c0_ (a b:List R2):rfC (a++b)=rfC a++rfC b:=by simp[rfC]
theorem rfC_tags (o:List R2):ap_ ((rfC o).map .d)=[]:=by
 generalize rfC o=l
 induction l with
 | nil=>rfl
 | cons x l ih=>simp only[List.map_cons,ap_,aN_,ih];rfl
abbrev rfB (o:List R2):Box:=.row 56 2 o.length ((rfC o).map .d)
def bsK:List R2→Bxs
 | []=>[(1100,.cells 70 [.d fB_])]
 | r::o=>[(1100,.cells 70 [.row 505]),(505,rfB (r::o))]
theorem oo_ (o:List R2):a9_ (bsK o):=by
 intro k b h
 cases o<;>simp only[bsK,getB] at h<;>(repeat' split at h)<;>cases h<;>rfl
set_option maxHeartbeats 4000000 in
theorem rT_ (M:List R2) (hnd:M.Nodup) (hl:M.length≤1000):FunX Tryz.prog 116 [.d fB_,.fn (.func 82) [] [.ptr 1000 0]] [(1000,.cells 80 [.row 1001]),(1001,.mp (aP_ M))] (α:={o:List R2 // o.Perm M}) (fun _=>.row 0) (fun o=>[(1000,.cells 80 [.row 1001]),(1001,.mp (aP_ M)),(0,rfB o.1)]):=by
 refine i0_ aa_ Tryz.func116 rfl fun β0=>?_
 simp only[Tryz.f116]
 repeat(first|apply wG|(apply wR;simp -dsimp)|refine aI ?_)
 refine eG_ oI_ (vv_ M hnd) bsK (mkS 13 [(2,.ptr 1100 0)] []).sl 990 (rl [(1000,1000),(1001,1001),(1100,2),(505,700),(990,602)]) rfl rfl rfl (by simp) (by simp) (by simp) oo_
  (by
   intro p hp
   refine⟨by simp at hp;rcases hp with rfl|rfl<;>simp,by simp at hp;rcases hp with rfl|rfl<;>rfl,fun s _=>by simp at hp;rcases hp with rfl|rfl<;>cases s<;>rfl⟩) (by simp) (fun s _=>by cases s<;>simp[bsK,rfC_tags]) (by simp) (by decide) (fun s _=>by cases s<;>rfl) (fun s x s' h=>by obtain⟨r,_,_,_,hx,_⟩:=h;rw[hx];rfl) ?_ ?_ ?_ ?_ ?_
 ·rintro s _ _ ⟨r,hr,hrs,hsl,rfl,rfl⟩ lp β1
  cases s with
  | nil =>
   simp -dsimp[bsK]
   repeat(first|apply wG|(apply wR;simp -dsimp)|refine aI ?_)
   exact⟨mkS 13 [] (bsK [r]),Wk.go [5,10] 11 505 (by decide) (by simp) (by simp) (by simp[bsK,rfC]),subB_ok (by simp[bsK])⟩
  | cons q o =>
   have hol:o.length+1≤1000:=by simp only[List.length_cons] at hsl;omega
   simp -dsimp[bsK]
   repeat(first|apply wG|(apply wR;simp -dsimp)|refine aI ?_)
   exact⟨mkS 13 [] (bsK (q::o++[r])),Wk.go [5,10,505] 11 505 (by decide) (by simp) (by simp) (by simp[bsK,rfC]),subB_ok (by simp[bsK])⟩
 ·exact ai_ (by simp[bsK]) (by simp[bsK]) (by simp[bsK]) (by simp[bsK]) (by simp[bsK])
 ·intro G s hE
  refine ai_ (by simp[bsK]) (by cases s<;>simp[bsK]) (by cases s<;>simp[bsK]) (by cases s<;>simp[bsK]) (by cases s<;>simp[bsK,rfC_tags])
 ·intro G s hE
  cases s<;>simp[bsK]
 ·intro G o hE
  cases o with
  | nil =>
   simp -dsimp[bsK]
   repeat(first|apply wG|(apply wR;simp -dsimp)|refine aI ?_)
   refine WP.ret (hs_ ⟨[],hE⟩ (bL_ (S':=⟨(mkS 13 [(4,.row 0)] []).sl,[(1000,.cells 80 [.row 1001]),(1001,.mp (aP_ M)),(0,rfB []),(602,.obj G (.deferred (some [])))],[G]⟩) ((ae_ [] (S':=⟨(mkS 13 [(4,.d fB_)] []).sl,[(1000,.cells 80 [.row 1001]),(1001,.mp (aP_ M)),(602,.obj G (.deferred (some [])))],[G]⟩) (by simp) (by simp)).trans ((bk_ 4 0 56 2 (by simp) (by simp)).trans (ae_ [] (by simp) (by simp[rfC])))) ?_ G 602 rfl rfl rfl))
   simp -dsimp
  | cons r o =>
   simp -dsimp[bsK]
   repeat(first|apply wG|(apply wR;simp -dsimp)|refine aI ?_)
   refine WP.ret (hs_ ⟨r::o,hE⟩ (bL_ (S':=⟨(mkS 13 [(4,.row 0)] []).sl,[(1000,.cells 80 [.row 1001]),(1001,.mp (aP_ M)),(0,rfB (r::o)),(602,.obj G (.deferred (some [])))],[G]⟩) (Wk.go [2] 700 0 (by decide) (by simp) (by simp) (by simp)) ?_ G 602 rfl rfl rfl))
   simp -dsimp
theorem ok_ (M:List R2) (hnd:M.Nodup) (hl:M.length≤1000):FunX Tryz.prog 80 [.fn (.func 82) [] [.ptr 1000 0]] [(1000,.cells 80 [.row 1001]),(1001,.mp (aP_ M))] (α:={o:List R2 // o.Perm M}) (fun _=>.row 0) (fun o=>[(1000,.cells 80 [.row 1001]),(1001,.mp (aP_ M)),(0,rfB o.1)]):=by
 refine cg_ aa_ Tryz.func80 rfl fun β0=>?_
 simp only[Tryz.f80]
 refine WP.seq ?_
 refine WP.region aa_ ?_
 simp -dsimp
 repeat refine aI ?_
 refine WP.seq ?_
 refine li_ aa_ rfl ?_
 simp -dsimp
 refine fg_ nn_ (rT_ M hnd hl) (rl [(1000,1000),(1001,1001),(0,600)]) rfl rfl (by simp) (ai_ (by simp[BoxLeq]) rfl (by first|rfl|(simp;done)) (by simp) (by simp)) (fun x=>ai_ (by simp[BoxLeq]) rfl (by first|rfl|(simp;done)) (by simp) (by simp)) (fun x=>by simp) (fun x=>?_)
 obtain⟨o,ho⟩:=x
 refine⟨_,Wk.refl _,?_⟩
 simp -dsimp
 refine WP.ret (finX.ret ⟨o,ho⟩ (am_ (S':=mkS 5 [(2,.row 0)] [(1000,.cells 80 [.row 1001]),(1001,.mp (aP_ M)),(0,rfB o)]) (Wk.go [] 600 0 (by decide) (by simp) (by simp) (by simp)) ?_))
 simp -dsimp
end Go.Proofs.YtdjkbdhdejlakaaGreatDoor
namespace Go.Xe
open Go.RowKit Go.Sort Go.Shelf
variable [Glob]
section
variable {α:Type} [Inhabited α]
end
end Go.Xe
