/-
  Joined texts.
-/
import Derived.Test.YtfgcgagcpnbgmaaGreatDoorGFA
import Derived.Test.YtfgcgagcpnbgmaaGreatDoorG4
set_option linter.all false
set_option maxRecDepth 10000
set_option maxHeartbeats 4000000
namespace Go.Proofs.YtfgcgagcpnbgmaaGreatDoor
open Go.Xe Go.RowKit
theorem A9_ (f:Nat→Int) (s:Int) (hk:f 3=4) {E:List Ent} (hE:ents (f 3) (f 49)=some E) :
  Fun Tryz.prog 161 [.ptr 1000 0,.ptr 1001 0] [(1000,fB f),(1001,sB s)] (.tup [.agg [.row 0,.fn (.func 208) [] [.ptr 1 0]],.d (.v (.bool true))]) [(1000,fB f),(1001,sB s),(0,.row 238 3 E.length (bH_ 1000 1001 E)),(1,.cells 284 [.ptr 1000 21])] fun _=>False:=by
 rw[hk] at hE
 simp[ents] at hE
 subst hE
 refine ad_ (pn:=an_) ac_ Tryz.func161 rfl fun β0=>?_
 simp only[Tryz.f161]
 refine sG ?_
 rw[hk]
 refine cF (by simp) ?_
 refine sG ?_
 refine cF (by simp) ?_
 refine sG ?_
 refine cF (by simp) ?_
 refine sG ?_
 refine cT (by simp) ?_
 refine sG ?_
 refine ar_ ((aI_ 174 0 (by decide) (by simp)).trans (aI_ 9 1 (by decide) (by simp))) ?_
 simp -dsimp
 refine WP.ret (ab_ ?_)
 simp -dsimp[bH_,locA]
theorem A8_ (f:Nat→Int) (s:Int) (hk:f 3=5) {E:List Ent} (hE:ents (f 3) (f 49)=some E) :
  Fun Tryz.prog 161 [.ptr 1000 0,.ptr 1001 0] [(1000,fB f),(1001,sB s)] (.tup [.agg [.row 0,.fn (.func 209) [] [.ptr 1 0]],.d (.v (.bool true))]) [(1000,fB f),(1001,sB s),(0,.row 238 3 E.length (bH_ 1000 1001 E)),(1,.cells 285 [.ptr 1000 29])] fun _=>False:=by
 rw[hk] at hE
 simp[ents] at hE
 subst hE
 refine ad_ (pn:=an_) ac_ Tryz.func161 rfl fun β0=>?_
 simp only[Tryz.f161]
 refine sG ?_
 rw[hk]
 refine cF (by simp) ?_
 refine sG ?_
 refine cF (by simp) ?_
 refine sG ?_
 refine cF (by simp) ?_
 refine sG ?_
 refine cF (by simp) ?_
 refine sG ?_
 refine cT (by simp) ?_
 refine sG ?_
 refine ar_ ((aI_ 202 0 (by decide) (by simp)).trans (aI_ 10 1 (by decide) (by simp))) ?_
 simp -dsimp
 refine WP.ret (ab_ ?_)
 simp -dsimp[bH_,locA]
theorem A7_ (f:Nat→Int) (s:Int) (hk:f 3=6) {E:List Ent} (hE:ents (f 3) (f 49)=some E) :
  Fun Tryz.prog 161 [.ptr 1000 0,.ptr 1001 0] [(1000,fB f),(1001,sB s)] (.tup [.agg [.row 0,.fn (.func 210) [] [.ptr 1 0]],.d (.v (.bool true))]) [(1000,fB f),(1001,sB s),(0,.row 238 3 E.length (bH_ 1000 1001 E)),(1,.cells 286 [.ptr 1000 33])] fun _=>False:=by
 rw[hk] at hE
 simp[ents] at hE
 subst hE
 refine ad_ (pn:=an_) ac_ Tryz.func161 rfl fun β0=>?_
 simp only[Tryz.f161]
 refine sG ?_
 rw[hk]
 refine cF (by simp) ?_
 refine sG ?_
 refine cF (by simp) ?_
 refine sG ?_
 refine cF (by simp) ?_
 refine sG ?_
 refine cF (by simp) ?_
 refine sG ?_
 refine cF (by simp) ?_
 refine sG ?_
 refine cT (by simp) ?_
 refine sG ?_
 refine ar_ ((aI_ 230 0 (by decide) (by simp)).trans (aI_ 11 1 (by decide) (by simp))) ?_
 simp -dsimp
 refine WP.ret (ab_ ?_)
 simp -dsimp[bH_,locA]
theorem A6_ (f:Nat→Int) (s:Int) (hk:f 3=7) {E:List Ent} (hE:ents (f 3) (f 49)=some E) :
  Fun Tryz.prog 161 [.ptr 1000 0,.ptr 1001 0] [(1000,fB f),(1001,sB s)] (.tup [.agg [.row 0,.fn (.func 211) [] [.ptr 1 0]],.d (.v (.bool true))]) [(1000,fB f),(1001,sB s),(0,.row 238 3 E.length (bH_ 1000 1001 E)),(1,.cells 287 [.ptr 1000 37])] fun _=>False:=by
 rw[hk] at hE
 simp[ents] at hE
 subst hE
 refine ad_ (pn:=an_) ac_ Tryz.func161 rfl fun β0=>?_
 simp only[Tryz.f161]
 refine sG ?_
 rw[hk]
 refine cF (by simp) ?_
 refine sG ?_
 refine cF (by simp) ?_
 refine sG ?_
 refine cF (by simp) ?_
 refine sG ?_
 refine cF (by simp) ?_
 refine sG ?_
 refine cF (by simp) ?_
 refine sG ?_
 refine cF (by simp) ?_
 refine sG ?_
 refine cT (by simp) ?_
 refine sG ?_
 refine ar_ ((aI_ 248 0 (by decide) (by simp)).trans (aI_ 12 1 (by decide) (by simp))) ?_
 simp -dsimp
 refine WP.ret (ab_ ?_)
 simp -dsimp[bH_,locA]
theorem yU_ (f:Nat→Int) (s:Int) (hk:f 3=12) {E:List Ent} (hE:ents (f 3) (f 49)=some E) :
  Fun Tryz.prog 161 [.ptr 1000 0,.ptr 1001 0] [(1000,fB f),(1001,sB s)] (.tup [.agg [.row 0,.d (.v (.func (.func 207) #[] #[]))],.d (.v (.bool true))]) [(1000,fB f),(1001,sB s),(0,.row 238 3 E.length (bH_ 1000 1001 E))] fun _=>False:=by
 rw[hk] at hE
 simp[ents] at hE
 subst hE
 refine ad_ (pn:=an_) ac_ Tryz.func161 rfl fun β0=>?_
 simp only[Tryz.f161]
 refine sG ?_
 rw[hk]
 refine cF (by simp) ?_
 refine sG ?_
 refine cF (by simp) ?_
 refine sG ?_
 refine cF (by simp) ?_
 refine sG ?_
 refine cF (by simp) ?_
 refine sG ?_
 refine cF (by simp) ?_
 refine sG ?_
 refine cF (by simp) ?_
 refine sG ?_
 refine cF (by simp) ?_
 refine sG ?_
 refine cF (by simp) ?_
 refine sG ?_
 refine cF (by simp) ?_
 refine sG ?_
 refine cF (by simp) ?_
 refine sG ?_
 refine cF (by simp) ?_
 refine sG ?_
 refine cT (by simp) ?_
 refine sG ?_
 refine ar_ (bf_ 4 0 0 238 3 (by simp;exact⟨rfl,rfl⟩) rfl (by simp)) ?_
 simp -dsimp
 refine WP.ret (ab_ ?_)
 simp -dsimp[bH_,locA]
theorem tK_ (f:Nat→Int) (s:Int) (hE:ents (f 3) (f 49)=none) :
  Fun Tryz.prog 161 [.ptr 1000 0,.ptr 1001 0] [(1000,fB f),(1001,sB s)] (.tup [.agg [.d (.v (.slice none 0 0)),.d (.v .nilFunc)],.d (.v (.bool false))]) [(1000,fB f),(1001,sB s)] fun _=>False:=by
 have hn:f 3<1∨13<f 3:=by
  rcases Int.lt_or_le (f 3) 1 with h|h
  ·exact .inl h
  ·rcases Int.lt_or_le 13 (f 3) with h2|h2
   ·exact .inr h2
   ·have:f 3=1∨f 3=2∨f 3=3∨f 3=4∨f 3=5∨f 3=6∨f 3=7∨f 3=8∨f 3=9∨f 3=10∨f 3=11∨f 3=12∨f 3=13:=by omega
    rcases this with h|h|h|h|h|h|h|h|h|h|h|h|h<;>rw[h] at hE<;>simp[ents] at hE
 refine ad_ (pn:=an_) ac_ Tryz.func161 rfl fun β0=>?_
 simp only[Tryz.f161]
 refine sG ?_
 refine cF (by simp;omega) ?_
 refine sG ?_
 refine cF (by simp;omega) ?_
 refine sG ?_
 refine cF (by simp;omega) ?_
 refine sG ?_
 refine cF (by simp;omega) ?_
 refine sG ?_
 refine cF (by simp;omega) ?_
 refine sG ?_
 refine cF (by simp;omega) ?_
 refine sG ?_
 refine cF (by simp;omega) ?_
 refine sG ?_
 refine cF (by simp;omega) ?_
 refine sG ?_
 refine cF (by simp;omega) ?_
 refine sG ?_
 refine cF (by simp;omega) ?_
 refine sG ?_
 refine cF (by simp;omega) ?_
 refine sG ?_
 refine cF (by simp;omega) ?_
 refine sG ?_
 refine cF (by simp;omega) ?_
 refine WP.skip ?_
 simp -dsimp
 refine sG ?_
 refine WP.ret (ab_ ?_)
 simp -dsimp
theorem yW_ (f:Nat→Int) (s:Int) (hk:f 3=10) {E:List Ent} (hE:ents (f 3) (f 49)=some E) :
  Fun Tryz.prog 161 [.ptr 1000 0,.ptr 1001 0] [(1000,fB f),(1001,sB s)] (.tup [.agg [.row 0,.d (.v (.func (.func 207) #[] #[]))],.d (.v (.bool true))]) [(1000,fB f),(1001,sB s),(0,.row 238 3 E.length (bH_ 1000 1001 E))] fun _=>False:=by
 rw[hk] at hE
 simp[ents] at hE
 subst hE
 refine ad_ (pn:=an_) ac_ Tryz.func161 rfl fun β0=>?_
 simp only[Tryz.f161]
 refine sG ?_
 rw[hk]
 refine cF (by simp) ?_
 refine sG ?_
 refine cF (by simp) ?_
 refine sG ?_
 refine cF (by simp) ?_
 refine sG ?_
 refine cF (by simp) ?_
 refine sG ?_
 refine cF (by simp) ?_
 refine sG ?_
 refine cF (by simp) ?_
 refine sG ?_
 refine cF (by simp) ?_
 refine sG ?_
 refine cF (by simp) ?_
 refine sG ?_
 refine cF (by simp) ?_
 refine sG ?_
 refine cT (by simp) ?_
 refine sG ?_
 have hr:f 49=1∨f 49=2∨f 49=3∨f 49=4∨(f 49≠1∧f 49≠2∧f 49≠3∧f 49≠4):=by omega
 rcases hr with hr|hr|hr|hr|⟨hr1,hr2,hr3,hr4⟩
 ·rw[hr]
  refine cT (by simp) ?_
  refine WP.skip ?_
  simp -dsimp
  refine sG ?_
  refine cT (by simp) ?_
  refine sG ?_
  refine ar_ (aI_ 358 0 (by decide) (by simp)) ?_
  simp -dsimp
  refine WP.ret (ab_ ?_)
  simp -dsimp[bH_,locA,dQ_,hr]
 ·rw[hr]
  refine cF (by simp) ?_
  refine sG ?_
  refine cT (by simp) ?_
  refine sG ?_
  refine ar_ (aI_ 358 0 (by decide) (by simp)) ?_
  simp -dsimp
  refine WP.ret (ab_ ?_)
  simp -dsimp[bH_,locA,dQ_,hr]
 ·rw[hr]
  refine cF (by simp) ?_
  refine sG ?_
  refine cF (by simp) ?_
  refine sG ?_
  refine cT (by simp) ?_
  refine sG ?_
  refine ar_ (aI_ 358 0 (by decide) (by simp)) ?_
  simp -dsimp
  refine WP.ret (ab_ ?_)
  simp -dsimp[bH_,locA,dQ_,hr]
 ·rw[hr]
  refine cF (by simp) ?_
  refine sG ?_
  refine cF (by simp) ?_
  refine sG ?_
  refine cF (by simp) ?_
  refine sG ?_
  refine cT (by simp) ?_
  refine sG ?_
  refine ar_ (aI_ 358 0 (by decide) (by simp)) ?_
  simp -dsimp
  refine WP.ret (ab_ ?_)
  simp -dsimp[bH_,locA,dQ_,hr]
 ·refine cF (by simp[*]) ?_
  refine sG ?_
  refine cF (by simp[*]) ?_
  refine sG ?_
  refine cF (by simp[*]) ?_
  refine sG ?_
  refine cF (by simp[*]) ?_
  refine WP.skip ?_
  simp -dsimp
  refine sG ?_
  refine ar_ (aI_ 358 0 (by decide) (by simp)) ?_
  simp -dsimp
  refine WP.ret (ab_ ?_)
  simp -dsimp[bH_,locA,dQ_,hr1,hr2,hr3,hr4]
section
variable (kf ks:Nat)
@[simp] theorem zD_ (ρ:Nat→Nat):∀ E:List Ent,renL ρ (bH_ kf ks E)=bH_ (ρ kf) (ρ ks) E
 | []=>rfl
 | (o,lo,hi)::r=>by
  rw[bH_,renL,renL,renL,zD_ ρ r,bH_]
  cases o<;>rfl
@[simp] theorem zF_ (k:Nat) (h1:kf≠k) (h2:ks≠k):∀ E:List Ent,am_ k (bH_ kf ks E)=false
 | []=>rfl
 | (o,lo,hi)::r=>by
  rw[bH_,am_,am_,am_,zF_ k h1 h2 r]
  cases o<;>simp[locA,AV.has,h1,h2]
@[simp] theorem wG_ (bo:Bxs) (h1:(getB bo kf).isSome=true) (h2:(getB bo ks).isSome=true):∀ E:List Ent,tagsIn bo (aC_ (bH_ kf ks E))=true
 | []=>rfl
 | (o,lo,hi)::r=>by
  have:=wG_ bo h1 h2 r
  rw[bH_]
  cases o<;>simp[locA,aC_,a7_,tagsIn,h1,h2,this]
@[simp] theorem zG_ (k sz n:Nat) (ds:List D) (h1:kf≠k) (h2:ks≠k):∀ E:List Ent,gx_ k sz n ds (bH_ kf ks E)=bH_ kf ks E
 | []=>rfl
 | (o,lo,hi)::r=>by
  rw[bH_,gx_,gx_,gx_,zG_ k sz n ds h1 h2 r]
  cases o<;>simp[locA,frz,h1,h2]
@[simp] theorem gE_:∀ A B:List Ent,bH_ kf ks (A++B)=bH_ kf ks A++bH_ kf ks B
 | [],B=>rfl
 | (o,lo,hi)::r,B=>by rw[List.cons_append,bH_,bH_,gE_ r B];rfl
@[simp] theorem zE_:∀ E:List Ent,(∀ c∈bH_ kf ks E,oneA c=true)↔True
 | []=>by simp[bH_]
 | (o,lo,hi)::r=>by
  have:=zE_ r
  rw[bH_]
  cases o<;>simp[locA,oneA,oneD,Value.oneCell']<;>exact of_eq_true (eq_true (by simpa using this))
@[simp] theorem kj_ (E:List Ent):(bH_ kf ks E).length=E.length*3:=iX_ kf ks E
end
@[simp] theorem E4_ (kf ks:Nat) (h:ks≠kf):bH_ kf ks headE=bH_ kf kf headE:=rfl
@[simp] theorem BH_:headE.length=4:=rfl
theorem u9_:Fn0 Tryz.prog 207 [] (.v (.bool true)):=by
 refine ad_ (pn:=an_) ac_ Tryz.func207 rfl fun β0=>?_
 simp only[Tryz.f207]
 refine sG ?_
 refine WP.ret (ab_ ?_)
 simp -dsimp
theorem BT_ (f:Nat→Int):Fun Tryz.prog 208 [.ptr 1000 0] [(1000,.cells 284 [.ptr 1001 21]),(1001,fB f)] (.d (.v (.bool (decide (f 27≤f 28))))) [(1000,.cells 284 [.ptr 1001 21]),(1001,fB f)] fun _=>False:=by
 refine ad_ (pn:=an_) ac_ Tryz.func208 rfl fun β0=>?_
 simp only[Tryz.f208]
 refine sG ?_
 refine WP.ret (ab_ ?_)
 simp -dsimp
theorem BS_ (f:Nat→Int):Fun Tryz.prog 209 [.ptr 1000 0] [(1000,.cells 285 [.ptr 1001 29]),(1001,fB f)] (.d (.v (.bool (decide (f 31≤f 32))))) [(1000,.cells 285 [.ptr 1001 29]),(1001,fB f)] fun _=>False:=by
 refine ad_ (pn:=an_) ac_ Tryz.func209 rfl fun β0=>?_
 simp only[Tryz.f209]
 refine sG ?_
 refine WP.ret (ab_ ?_)
 simp -dsimp
theorem BR_ (f:Nat→Int):Fun Tryz.prog 210 [.ptr 1000 0] [(1000,.cells 286 [.ptr 1001 33]),(1001,fB f)] (.d (.v (.bool (decide (f 35≤f 36))))) [(1000,.cells 286 [.ptr 1001 33]),(1001,fB f)] fun _=>False:=by
 refine ad_ (pn:=an_) ac_ Tryz.func210 rfl fun β0=>?_
 simp only[Tryz.f210]
 refine sG ?_
 refine WP.ret (ab_ ?_)
 simp -dsimp
theorem BQ_ (f:Nat→Int):Fun Tryz.prog 211 [.ptr 1000 0] [(1000,.cells 287 [.ptr 1001 37]),(1001,fB f)] (.d (.v (.bool (decide (f 37<f 38))))) [(1000,.cells 287 [.ptr 1001 37]),(1001,fB f)] fun _=>False:=by
 refine ad_ (pn:=an_) ac_ Tryz.func211 rfl fun β0=>?_
 simp only[Tryz.f211]
 refine sG ?_
 refine WP.ret (ab_ ?_)
 simp -dsimp
theorem kind_of {k r:Int} {E:List Ent} (h:ents k r=some E):k=1∨k=2∨k=3∨k=4∨k=5∨k=6∨k=7∨k=8∨k=9∨k=10∨k=11∨k=12∨k=13:=by
 by_cases hk:k=1∨k=2∨k=3∨k=4∨k=5∨k=6∨k=7∨k=8∨k=9∨k=10∨k=11∨k=12∨k=13
 ·exact hk
 ·simp only[not_or] at hk
  simp[ents,hk] at h
def clos (k:Int):Option (Nat×Nat×Nat):=if k=4 then some (284,208,21) else if k=5 then some (285,209,29) else if k=6 then some (286,210,33) else if k=7 then some (287,211,37) else none
abbrev Bd_ (f:Nat→Int) (s:Int) (E:List Ent):Prop :=
 Fun Tryz.prog 161 [.ptr 1000 0,.ptr 1001 0] [(1000,fB f),(1001,sB s)] (.tup [.agg [.row 0,.d (.v (.func (.func 207) #[] #[]))],.d (.v (.bool true))]) [(1000,fB f),(1001,sB s),(0,.row 238 3 E.length (bH_ 1000 1001 E))] fun _=>False
abbrev Be_ (f:Nat→Int) (s:Int) (E:List Ent) (T g off:Nat):Prop :=
 Fun Tryz.prog 161 [.ptr 1000 0,.ptr 1001 0] [(1000,fB f),(1001,sB s)] (.tup [.agg [.row 0,.fn (.func g) [] [.ptr 1 0]],.d (.v (.bool true))]) [(1000,fB f),(1001,sB s),(0,.row 238 3 E.length (bH_ 1000 1001 E)),(1,.cells T [.ptr 1000 off])] fun _=>False
theorem tL_ (f:Nat→Int) (s:Int) {E:List Ent} (hE:ents (f 3) (f 49)=some E) (hc:clos (f 3)=none):Bd_ f s E:=by
 rcases kind_of hE with h|h|h|h|h|h|h|h|h|h|h|h|h
 ·exact Bc_ f s h hE
 ·exact Bb_ f s h hE
 ·exact Ba_ f s h hE
 ·rw[h] at hc;cases hc
 ·rw[h] at hc;cases hc
 ·rw[h] at hc;cases hc
 ·rw[h] at hc;cases hc
 ·exact A5_ f s h hE
 ·exact A4_ f s h hE
 ·exact yW_ f s h hE
 ·exact yV_ f s h hE
 ·exact yU_ f s h hE
 ·exact yT_ f s h hE
theorem tM_ (f:Nat→Int) (s:Int) {E:List Ent} (hE:ents (f 3) (f 49)=some E) {T g off:Nat} (hc:clos (f 3)=some (T,g,off)):Be_ f s E T g off:=by
 have hk:f 3=4∨f 3=5∨f 3=6∨f 3=7:=by
  unfold clos at hc
  by_cases h:f 3=4∨f 3=5∨f 3=6∨f 3=7
  ·exact h
  ·simp only[not_or] at h
   simp[h] at hc
 rcases hk with h|h|h|h<;>rw[h] at hc<;>simp[clos] at hc<;>obtain⟨rfl,rfl,rfl⟩:=hc
 ·exact A9_ f s h hE
 ·exact A8_ f s h hE
 ·exact A7_ f s h hE
 ·exact A6_ f s h hE
theorem du_ {k r:Int} {E:List Ent} (h:ents k r=some E):E.length≤8:=by
 rcases kind_of h with h'|h'|h'|h'|h'|h'|h'|h'|h'|h'|h'|h'|h'<;>subst h'<;>simp[ents] at h<;>subst h<;>(try (simp;done))
 unfold dQ_
 split<;>simp
abbrev EK_ (f g:Nat→Int) (s:Int) (E:List Ent):Prop :=
  Fun Tryz.prog 162 [.ptr 1000 0,.ptr 1001 0,.ptr 1002 0] [(1000,fB g),(1001,sB s),(1002,fB f)] (.row 0) [(1000,fB (fup g 3 (f 3))),(1001,sB s),(1002,fB f),(0,.row 238 3 (4+E.length) (bH_ 1000 1001 (headE++E)))] fun _=>False
theorem EI_ (f g:Nat→Int) (s:Int) {E:List Ent} (hlen:E.length≤8) (h38:Bd_ (fup g 3 (f 3)) s E):EK_ f g s E:=by
 refine ad_ (pn:=an_) ac_ Tryz.func162 rfl fun β0=>?_
 simp only[Tryz.f162]
 refine sG ?_
 refine vcStop.call bD_ (h38) (rl [(0,700)]) rfl rfl (by simp[BoxLeq]) aGq (fun _ h=>h.elim) (fun ⟨_,h⟩=>h.elim) (fun ⟨_,h⟩=>h.elim) (by simp[BoxLeq]) ?_
 simp -dsimp
 refine sG ?_
 refine vcStop.call ci_ (iR_ (fup g 3 (f 3))) (rl [(0,20)]) rfl rfl (by simp[BoxLeq]) aGq (fun _ h=>h.elim) (fun ⟨_,h⟩=>h.elim) (fun ⟨_,h⟩=>h.elim) (by simp[BoxLeq]) ?_
 simp -dsimp
 refine sG ?_
 refine ar_ (aI_ 23 0 (by decide) (by simp)) ?_
 simp -dsimp
 refine WP.ret (ab_ ?_)
 simp -dsimp
theorem EJ_ (f g:Nat→Int) (s:Int) {E:List Ent} (hlen:E.length≤8) {T q off:Nat} (h38:Be_ (fup g 3 (f 3)) s E T q off):EK_ f g s E:=by
 refine ad_ (pn:=an_) ac_ Tryz.func162 rfl fun β0=>?_
 simp only[Tryz.f162]
 refine sG ?_
 refine vcStop.call bD_ (h38) (rl [(0,700),(1,701)]) rfl rfl (by simp[BoxLeq]) aGq (fun _ h=>h.elim) (fun ⟨_,h⟩=>h.elim) (fun ⟨_,h⟩=>h.elim) (by simp[BoxLeq]) ?_
 simp -dsimp
 refine sG ?_
 refine vcStop.call ci_ (iR_ (fup g 3 (f 3))) (rl [(0,20)]) rfl rfl (by simp[BoxLeq]) aGq (fun _ h=>h.elim) (fun ⟨_,h⟩=>h.elim) (fun ⟨_,h⟩=>h.elim) (by simp[BoxLeq]) ?_
 simp -dsimp
 refine sG ?_
 refine ar_ (aI_ 23 0 (by decide) (by simp)) ?_
 simp -dsimp
 refine WP.ret (ab_ ?_)
 simp -dsimp
theorem xD_ (f g:Nat→Int) (s:Int) {E:List Ent} (hE:ents (f 3) (g 49)=some E):EK_ f g s E:=by
 have hE':ents (fup g 3 (f 3) 3) (fup g 3 (f 3) 49)=some E:=by simpa [fup] using hE
 cases hc:clos (fup g 3 (f 3) 3) with
 | none=>exact EI_ f g s (du_ hE) (tL_ _ s hE' hc)
 | some p=>obtain⟨T,q,off⟩:=p;exact EJ_ f g s (du_ hE) (tM_ _ s hE' hc)
def fOk (f:Nat→Int):Prop:=(∀ i,isI (f i))∧(f 54=0∨f 54=1)∧∀ i,57≤i→f i=0
def iD:List Int→List D
 | []=>[]
 | x::l=>.v (.int .i64 x)::iD l
@[simp] theorem FG_:iD []=[]:=rfl
@[simp] theorem zm_ (x:Int) (l:List Int):iD (x::l)=.v (.int .i64 x)::iD l:=rfl
@[simp] theorem mS_:∀ a b:List Int,iD (a++b)=iD a++iD b
 | [],_=>rfl
 | x::a,b=>by rw[List.cons_append,iD,iD,mS_ a b];rfl
@[simp] theorem mR_:∀ a:List Int,(iD a).length=a.length
 | []=>rfl
 | x::a=>by rw[iD,List.length_cons,mR_ a,List.length_cons]
@[simp] def slI (l:List Int):D:=.sl 1 (iD l) l.length false
def valE (f:Nat→Int) (s:Int) (e:Ent):Int:=match e.1 with
 | some o=>f o
 | none=>s
def inE (f:Nat→Int) (s:Int) (e:Ent):Bool:=decide (e.2.1≤valE f s e)&&decide (valE f s e≤e.2.2)
def wrE (f:Nat→Int) (g:Nat→Int) (e:Ent):Nat→Int:=match e.1 with
 | some o=>fup g o (f o)
 | none=>g
def wrL (f:Nat→Int) (g:Nat→Int):List Ent→Nat→Int
 | []=>g
 | e::r=>wrL f (wrE f g e) r
def flE (s:Int) (x:Int) (e:Ent):Int:=match e.1 with
 | some _=>x
 | none=>s
def flL (s x:Int):List Ent→Int
 | []=>x
 | e::r=>flL s (flE s x e) r
theorem wrL_append (f g:Nat→Int):∀ (A B:List Ent),wrL f g (A++B)=wrL f (wrL f g A) B
 | [],_=>rfl
 | e::A,B=>by rw[List.cons_append,wrL,wrL,wrL_append]
theorem flL_append (s x:Int):∀ (A B:List Ent),flL s x (A++B)=flL s (flL s x A) B
 | [],_=>rfl
 | e::A,B=>by rw[List.cons_append,flL,flL,flL_append]
def cF_ (e:Ent):Bool:=match e.1 with
 | some o=>decide (o<57) && !decide (o=54)
 | none=>true
theorem dc_:headE.all cF_=true:=by decide
theorem b6_ {k r:Int} {E:List Ent} (h:ents k r=some E):E.all cF_=true:=by
 rcases kind_of h with h'|h'|h'|h'|h'|h'|h'|h'|h'|h'|h'|h'|h'<;>subst h'<;>simp[ents] at h<;>subst h<;>(try (decide;done))
 unfold dQ_
 split<;>split<;>(try split)<;>decide
theorem lx_ (kf ks:Nat) (A1:List Ent) (e:Ent) (A2:List Ent):((bH_ kf ks (A1++e::A2)).drop (A1.length*3)).take 3=[locA kf ks e.1,.d (.v (.int .i64 e.2.1)),.d (.v (.int .i64 e.2.2))]:=by
 rw[gE_,← kj_ kf ks A1,List.drop_left]
 obtain⟨o,lo,hi⟩:=e
 rfl
theorem qS_ (kf ks:Nat) (A1:List Ent) (e:Ent) (A2:List Ent):atL (bH_ kf ks (A1++e::A2)) (A1.length*3)=locA kf ks e.1:=by
 rw[← df_,gE_,← kj_ kf ks A1,List.getElem?_append_right (Nat.le_refl _),Nat.sub_self]
 obtain⟨o,lo,hi⟩:=e
 rfl
def susp (f:Nat→Int):Int:=if f 54=1 then 1 else 0
def rest0 (f:Nat→Int):Nat→Int:=fup (fup f0 49 (f 49)) 3 (f 3)
def dV_ (f:Nat→Int) (g:Nat→Int) (fl:Int):Nat→Int:=fup (if f 3=10 then g else fup g 49 0) 54 (if fl=1 then 1 else 0)
def f4_ (f:Nat→Int):Bool :=
 if f 3=4 then decide (f 27≤f 28) else if f 3=5 then decide (f 31≤f 32) else if f 3=6 then decide (f 35≤f 36) else if f 3=7 then decide (f 37<f 38) else true
def eqF (g f:Nat→Int):Bool:=(List.range 57).all fun i=>decide (g i=f i)
def numF (f:Nat→Int):List Int×Bool :=
 match ents (f 3) (f 49) with
 | none=>([],false)
 | some E=>if (f4_ f&&(headE++E).all (inE f (susp f)))=true then ((headE++E).map (valE f (susp f)),eqF (dV_ f (wrL f (rest0 f) (headE++E)) (flL (susp f) 0 (headE++E))) f) else ([],false)
def E1_:IntKind→Bool
 | .i64=>true
 | _=>false
def uo_ (τ:Tab):Nat→Nat→Nat→Bool
 | 0,_,_=>false
 | n+1,T,o=>match τ T with
  | some ⟨.int k,sz,_,_⟩=>(decide (sz=1)&&decide (o≠54))&&E1_ k
  | some ⟨.bool,sz,_,_⟩=>decide (sz=1)&&decide (o=54)
  | some ⟨.struct fs,sz,_,_⟩=>bQ_ τ 0 fs sz&&fs.all fun f=>uo_ τ n f.2 (o+f.1)
  | _=>false
theorem r8_ (g:Nat→Int) (a m k:Nat):fcs g a m++fcs g (a+m) k=fcs g a (m+k):=by
 rw[fcs,fcs,fcs,← List.map_append,List.range'_append_1]
theorem qQ_ {τ:Tab} (g:Nat→Int) (o:Nat):∀ (fs:List (Nat×Nat)) (off n:Nat),bQ_ τ off fs n=true→off≤n∧(fs.map fun f=>fcs g (o+f.1) (tsz τ f.2)).flatten=fcs g (o+off) (n-off)
 | [],off,n,hc=>by
  simp only[bQ_,decide_eq_true_eq] at hc
  subst hc
  simp[fcs]
 | (a,T)::fs,off,n,hc=>by
  simp only[bQ_,Bool.and_eq_true,decide_eq_true_eq] at hc
  obtain⟨rfl,hc⟩:=hc
  obtain⟨h1,h2⟩:=qQ_ g o fs _ _ hc
  refine⟨by omega,?_⟩
  rw[List.map_cons,List.flatten_cons,h2,← Nat.add_assoc,r8_]
  congr 1
  show tsz τ T+(n-(a+tsz τ T))=n-a
  omega
theorem BO_ {τ:Tab} {g:Nat→Int} (hg:∀ i,isI (g i)):∀ (n T o:Nat),uo_ τ n T o=true→OkD τ n T (fcs g o (tsz τ T)):=by
 intro n
 induction n with
 | zero=>intro T o h;cases h
 | succ n ih =>
  intro T o h
  unfold uo_ at h
  unfold OkD tsz
  cases ht:τ T with
  | none=>rw[ht] at h;cases h
  | some te =>
   obtain⟨k,sz,byt,zero⟩:=te
   rw[ht] at h
   cases k<;>simp only[Bool.and_eq_true,decide_eq_true_eq] at h ⊢
   case int k =>
    obtain⟨⟨rfl,ho⟩,hk⟩:=h
    have:k=.i64:=by cases k<;>first|rfl|cases hk
    subst this
    exact⟨g o,by simp[fcs,ho],hg o⟩
   case bool =>
    obtain⟨rfl,rfl⟩:=h
    exact⟨_,by simp[fcs];rfl⟩
   case struct fs =>
    obtain⟨hc,ha⟩:=h
    obtain⟨_,h2⟩:=qQ_ g o fs 0 sz hc
    refine⟨fs.map fun f=>fcs g (o+f.1) (tsz τ f.2),by rw[h2];simp,by simp,fun i x f hx hf=>?_⟩
    rw[List.getElem?_map,hf] at hx
    cases hx
    exact ih f.2 (o+f.1) (List.all_eq_true.1 ha f (List.mem_of_getElem? hf))
   all_goals cases h
def mG_ (p:Nat) (d:D):Prop:=if p=54 then ∃ b,d=.v (.bool b) else ∃ x,d=.v (.int .i64 x)∧isI x
theorem um_ {τ:Tab}:∀ (n T o:Nat) (ds:List D),uo_ τ n T o=true→OkD τ n T ds→ds.length=tsz τ T:=by
 intro n
 induction n with
 | zero=>intro T o ds h;cases h
 | succ n ih =>
  intro T o ds h hk
  unfold uo_ at h
  unfold OkD at hk
  unfold tsz
  cases ht:τ T with
  | none=>rw[ht] at h;cases h
  | some te =>
   obtain⟨k,sz,byt,zero⟩:=te
   rw[ht] at h hk
   cases k<;>simp only[Bool.and_eq_true,decide_eq_true_eq] at h hk ⊢
   case int k=>obtain⟨x,rfl,_⟩:=hk;simp[h.1.1]
   case bool=>obtain⟨x,rfl⟩:=hk;simp[h.1]
   case struct fs =>
    obtain⟨hc,ha⟩:=h
    obtain⟨l,rfl,hl,hx⟩:=hk
    have:=flat_len fs 0 sz l hc hl fun i x f hxi hf=>ih f.2 (o+f.1) x (List.all_eq_true.1 ha f (List.mem_of_getElem? hf)) (hx i x f hxi hf)
    omega
   all_goals cases h
theorem kh_ {τ:Tab} {o:Nat} {Q:Nat→D→Prop}:∀ (fs:List (Nat×Nat)) (off n:Nat) (l:List (List D)),bQ_ τ off fs n=true→l.length=fs.length→(∀ (i:Nat) (x:List D) (f:Nat×Nat),l[i]? = some x→fs[i]? = some f→x.length=tsz τ f.2) →
  (∀ (i:Nat) (x:List D) (f:Nat×Nat),l[i]? = some x→fs[i]? = some f→∀ j d,x[j]? = some d→Q (o+f.1+j) d)→∀ j d,l.flatten[j]? = some d→Q (o+off+j) d
 | [],off,n,l,_,hl,_,_,j,d,hd=>by
  have:l=[]:=List.eq_nil_of_length_eq_zero hl
  subst this
  simp at hd
 | (a,T)::fs,off,n,l,hc,hl,hlen,h,j,d,hd=>by
  cases l with
  | nil=>cases hl
  | cons x l =>
   simp only[bQ_,Bool.and_eq_true,decide_eq_true_eq] at hc
   obtain⟨rfl,hc⟩:=hc
   have h0:=hlen 0 x (a,T) rfl rfl
   rw[List.flatten_cons] at hd
   by_cases hj:j<x.length
   ·rw[List.getElem?_append_left hj] at hd
    exact h 0 x (a,T) rfl rfl j d hd
   ·rw[List.getElem?_append_right (by omega)] at hd
    have:=kh_ (Q:=Q) (o:=o) fs (a+tsz τ T) n l hc (by simpa using hl) (fun i y f hy hf=>hlen (i+1) y f (by simpa using hy) (by simpa using hf)) (fun i y f hy hf=>h (i+1) y f (by simpa using hy) (by simpa using hf)) _ d hd
    simp only at h0
    rw[h0] at this
    rwa[show o+(a+tsz τ T)+(j-tsz τ T)=o+a+j by omega] at this
theorem un_ {τ:Tab}:∀ (n T o:Nat) (ds:List D),uo_ τ n T o=true→OkD τ n T ds→∀ j d,ds[j]? = some d→mG_ (o+j) d:=by
 intro n
 induction n with
 | zero=>intro T o ds h;cases h
 | succ n ih =>
  intro T o ds h hk
  unfold uo_ at h
  unfold OkD at hk
  cases ht:τ T with
  | none=>rw[ht] at h;cases h
  | some te =>
   obtain⟨k,sz,byt,zero⟩:=te
   rw[ht] at h hk
   cases k<;>simp only[Bool.and_eq_true,decide_eq_true_eq] at h hk
   case int k =>
    obtain⟨⟨rfl,ho⟩,hki⟩:=h
    have:k=.i64:=by cases k<;>first|rfl|cases hki
    subst this
    obtain⟨x,rfl,hx⟩:=hk
    intro j d hd
    cases j with
    | zero=>simp at hd;subst hd;rw[mG_,Nat.add_zero,if_neg ho];exact⟨x,rfl,hx⟩
    | succ j=>simp at hd
   case bool =>
    obtain⟨rfl,rfl⟩:=h
    obtain⟨x,rfl⟩:=hk
    intro j d hd
    cases j with
    | zero=>simp at hd;subst hd;rw[mG_,if_pos rfl];exact⟨x,rfl⟩
    | succ j=>simp at hd
   case struct fs =>
    obtain⟨hc,ha⟩:=h
    obtain⟨l,rfl,hl,hx⟩:=hk
    have:=kh_ (Q:=mG_) (o:=o) fs 0 sz l hc hl (fun i x f hxi hf=>um_ n f.2 (o+f.1) x (List.all_eq_true.1 ha f (List.mem_of_getElem? hf)) (hx i x f hxi hf))
     (fun i x f hxi hf j d hd=>ih f.2 (o+f.1) x (List.all_eq_true.1 ha f (List.mem_of_getElem? hf)) (hx i x f hxi hf) j d hd)
    simpa using this
   all_goals cases h
theorem BP_:uo_ ak_ 3 67 0=true:=by decide
theorem okF {g:Nat→Int} (h:∀ i,isI (g i)):OkD ak_ 3 67 (fcs g 0 57):=BO_ h 3 67 0 BP_
def cC_ (ds:List D) (i:Nat):Int:=match ds[i]? with
 | some (.v (.int _ x))=>x
 | some (.v (.bool b))=>if b then 1 else 0
 | _=>0
theorem zr_ {τ:Tab}:∀ (n m T o:Nat),n≤m→uo_ τ n T o=true→uo_ τ m T o=true:=by
 intro n
 induction n with
 | zero=>intro m T o _ h;cases h
 | succ n ih =>
  intro m T o hm h
  cases m with
  | zero=>omega
  | succ m =>
   unfold uo_ at h ⊢
   cases ht:τ T with
   | none=>rw[ht] at h;cases h
   | some te =>
    obtain⟨k,sz,byt,zero⟩:=te
    rw[ht] at h
    cases k<;>simp only[Bool.and_eq_true,decide_eq_true_eq] at h ⊢<;>first|exact h|skip
    case struct fs =>
     refine⟨h.1,List.all_eq_true.2 fun f hf=>ih m f.2 (o+f.1) (by omega) (List.all_eq_true.1 h.2 f hf)⟩
theorem Br_ {τ:Tab}:∀ (n m T:Nat) (ds:List D),n≤m→OkD τ n T ds→OkD τ m T ds:=by
 intro n
 induction n with
 | zero=>intro m T ds _ h;exact h.elim
 | succ n ih =>
  intro m T ds hm h
  cases m with
  | zero=>omega
  | succ m =>
   unfold OkD at h ⊢
   cases ht:τ T with
   | none=>rw[ht] at h;exact h.elim
   | some te =>
    obtain⟨k,sz,byt,zero⟩:=te
    rw[ht] at h
    cases k<;>simp only at h ⊢<;>first|exact h|skip
    case slice e =>
     obtain⟨l,h1,h2,h3⟩:=h
     exact⟨l,h1,fun x hx=>ih m e x (by omega) (h2 x hx),h3⟩
    case struct fs =>
     obtain⟨l,h1,h2,h3⟩:=h
     exact⟨l,h1,h2,fun i x f hx hf=>ih m f.2 x (by omega) (h3 i x f hx hf)⟩
    case array q e =>
     obtain⟨l,h1,h2,h3⟩:=h
     exact⟨l,h1,h2,fun x hx=>ih m e x (by omega) (h3 x hx)⟩
theorem t9_:isI 0:=⟨by decide,by decide⟩
theorem zt_ {n:Nat} {ds:List D} (h:OkD ak_ n 67 ds):∃ f,ds=fcs f 0 57∧fOk f:=by
 have h':=Br_ n (n+3) 67 ds (by omega) h
 have hf:=zr_ 3 (n+3) 67 0 (by omega) BP_
 have hl:ds.length=57:=um_ (n+3) 67 0 ds hf h'
 have hc:=un_ (n+3) 67 0 ds hf h'
 have key:∀ j d,ds[j]? = some d→d=fcell (cC_ ds) j∧isI (cC_ ds j)∧(j=54→cC_ ds 54=0∨cC_ ds 54=1):=fun j d hd=>by
  have:=hc j d hd
  rw[Nat.zero_add] at this
  unfold mG_ at this
  split at this
  ·rename_i hj
   subst hj
   obtain⟨b,rfl⟩:=this
   have e:cC_ ds 54=if b then 1 else 0:=by rw[cC_,hd]
   rw[r9_,e]
   cases b<;>simp[isI]
  ·rename_i hj
   obtain⟨x,rfl,hx⟩:=this
   have e:cC_ ds j=x:=by rw[cC_,hd]
   rw[us_ _ _ hj,e]
   exact⟨rfl,hx,fun h=>absurd h hj⟩
 have out:∀ i,57≤i→cC_ ds i=0:=fun i hi=>by rw[cC_,List.getElem?_eq_none (by omega)]
 refine⟨cC_ ds,?_,fun i=>?_,?_,out⟩
 ·refine List.ext_getElem? fun i=>?_
  by_cases hi:i<57
  ·rw[c3_ _ _ _ hi,Nat.zero_add]
   have hd:=List.getElem?_eq_getElem (l:=ds) (i:=i) (by omega)
   rw[hd,(key i _ hd).1]
  ·rw[List.getElem?_eq_none (by omega),List.getElem?_eq_none (by simp;omega)]
 ·by_cases hi:i<57
  ·exact (key i _ (List.getElem?_eq_getElem (l:=ds) (i:=i) (by omega))).2.1
  ·rw[out i (by omega)];exact t9_
 ·exact (key 54 _ (List.getElem?_eq_getElem (l:=ds) (i:=54) (by omega))).2.2 rfl
theorem gD_ {g f:Nat→Int} (hg:fOk g) (hf:fOk f):eqF g f=true↔g=f:=by
 unfold eqF
 rw[List.all_eq_true]
 constructor
 ·intro h
  funext i
  by_cases hi:i<57
  ·simpa using h i (by simpa using hi)
  ·rw[hg.2.2 i (by omega),hf.2.2 i (by omega)]
 ·rintro rfl i _
  simp
theorem fP_ {g f:Nat→Int} (hg:fOk g) (hf:fOk f):eqF g f=true↔by_ (fcs g 0 57)=by_ (fcs f 0 57):=by
 rw[gD_ hg hf]
 constructor
 ·rintro rfl;rfl
 ·intro h
  have one:∀ (f:Nat→Int) (i:Nat),BC_ (fcell f i)=[if i=54 then .bool (decide (f 54=1)) else .int .i64 (f i)]:=fun f i=>by
   unfold fcell;split<;>rfl
  have hl:∀ f:Nat→Int,by_ (fcs f 0 57)=(List.range' 0 57).map fun i=>if i=54 then Lit.bool (decide (f 54=1)) else .int .i64 (f i):=fun f=>by
   rw[by_,fcs,List.flatMap_map]
   simp only[one]
   generalize List.range' 0 57=l
   induction l with
   | nil=>rfl
   | cons i l ih=>simp[ih]
  rw[hl,hl] at h
  funext i
  by_cases hi:i<57
  ·have h1:=congrArg (fun l=>l[i]?) h
   simp only[List.getElem?_map,List.getElem?_range' hi] at h1
   simp only[Option.map_some,Option.some.injEq,Nat.zero_add,Nat.one_mul] at h1
   by_cases hj:i=54
   ·subst hj
    simp at h1
    rcases hg.2.1 with a|a<;>rcases hf.2.1 with b|b<;>rw[a,b] at h1<;>simp at h1<;>rw[a,b]
   ·simp[hj] at h1
    exact h1
  ·rw[hg.2.2 i (by omega),hf.2.2 i (by omega)]
@[simp] def rI (l:List Int):Box:=.row 3 1 l.length ((iD l).map .d)
theorem wn_ {x lo hi:Int} (h:(decide (x<lo)||decide (hi<x))=true):(decide (lo≤x)&&decide (x≤hi))=false:=by
 simp only[Bool.or_eq_true,decide_eq_true_eq] at h
 rw[Bool.and_eq_false_iff]
 simp only[decide_eq_false_iff_not]
 omega
theorem in_yes {x lo hi:Int} (h:(decide (x<lo)||decide (hi<x))=false):(decide (lo≤x)&&decide (x≤hi))=true:=by
 simp only[Bool.or_eq_false_iff,decide_eq_false_iff_not] at h
 rw[Bool.and_eq_true]
 simp only[decide_eq_true_eq]
 omega
def qy_ (f:Nat→Int):D:=.tup [slI (numF f).1,.v (.bool (numF f).2)]
theorem yo_ {f:Nat→Int}:isI (susp f):=by unfold susp;split<;>simp[isI]
theorem d7_ {g:Nat→Int} {o:Nat} {x:Int} (hg:∀ i,isI (g i)) (hx:isI x):∀ i,isI (fup g o x i):=fun i=>by unfold fup;split;exact hx;exact hg i
theorem sz_ {f:Nat→Int} (hf:∀ i,isI (f i)):∀ (A:List Ent) {g:Nat→Int},(∀ i,isI (g i))→∀ i,isI (wrL f g A i)
 | [],_,hg=>hg
 | (some o,_,_)::A,g,hg=>sz_ hf A (d7_ hg (hf o))
 | (none,_,_)::A,g,hg=>sz_ hf A hg
theorem ox_ {f:Nat→Int}:∀ (A:List Ent) {g:Nat→Int},A.all cF_=true→(∀ i,i=54∨57≤i→g i=0)→∀ i,i=54∨57≤i→wrL f g A i=0
 | [],_,_,hg=>hg
 | (some o,lo,hi)::A,g,hA,hg=>by
  rw[List.all_cons,Bool.and_eq_true] at hA
  refine ox_ A hA.2 fun i hi=>?_
  have:o<57∧o≠54:=by simpa [cF_] using hA.1
  simp only[wrE,fup]
  split
  ·omega
  ·exact hg i hi
 | (none,_,_)::A,g,hA,hg=>by
  rw[List.all_cons,Bool.and_eq_true] at hA
  exact ox_ A hA.2 hg
theorem kL_ {f:Nat→Int} (hf:fOk f) {A:List Ent} (hA:A.all cF_=true) (fl:Int):fOk (dV_ f (wrL f (rest0 f) A) fl):=by
 have h0:∀ i,isI (rest0 f i):=d7_ (d7_ (fun _=>t9_) (hf.1 49)) (hf.1 3)
 have h1:=sz_ hf.1 A h0
 have h2:=ox_ (f:=f) A (g:=rest0 f) hA (fun i hi=>by
  have h3:i≠3:=by omega
  have h49:i≠49:=by omega
  simp[rest0,fup,f0,h3,h49])
 refine⟨?_,?_,fun i hi=>?_⟩
 ·unfold dV_
  refine d7_ ?_ (by split<;>simp[isI])
  split
  ·exact h1
  ·exact d7_ h1 t9_
 ·unfold dV_ fup
  split<;>split<;>simp_all
 ·unfold dV_
  rw[fup,if_neg (by omega)]
  split
  ·exact h2 i (.inr hi)
  ·rw[fup,if_neg (by omega)];exact h2 i (.inr hi)
theorem fcs_side {f:Nat→Int} {o n:Nat} {a:D} (h:a∈fcs f o n):oneD a=true:=(wB_ f o n).2 trivial a h
@[simp] theorem Fc_ (g f:Nat→Int) (o n:Nat):fcs (fcp g f o n) o n=fcs f o n:=zs_ fun i h1 h2=>by
 unfold fcell fcp
 split
 ·rename_i h;subst h;rw[if_pos ⟨h1,h2⟩]
 ·first|rfl|rw[if_pos ⟨h1,h2⟩]
@[simp] theorem kx_ (bo:Bxs):∀ a b:List Nat,tagsIn bo (a++b)=(tagsIn bo a&&tagsIn bo b)
 | [],b=>by simp[tagsIn]
 | t::a,b=>by rw[List.cons_append,tagsIn,tagsIn,kx_ bo a b,Bool.and_assoc]
def sN (f:Nat→Int) (A A1:List Ent):St :=
 mkS 98 [(1,.ptr 1 0),(2,.row 500),(3,.d (.v (.bool true))),(7,.ptr 7 0),(10,.ptr 10 0),(11,.row 701),(42,.row 34),(43,.d (.v (.int .i64 A.length))),(44,.d (.v (.int .i64 A1.length)))]
  [(1,fB f),(4,sB (susp f)),(5,fB f),(7,fB (wrL f (rest0 f) A1)),(10,sB (flL (susp f) 0 A1)),(34,.row 238 3 A.length (bH_ 5 4 A)),(701,.row 238 3 A.length (bH_ 7 10 A)),(500,rI (A1.map (valE f (susp f))))]
theorem dh_:Tryz.prog.keyTypeAt 5 67=true:=by kernel_rfl
theorem ee_:Tryz.prog.eqGuardType Tryz.prog.depth 67=false:=by kernel_rfl
def FL:List TypeId:=[3,4,42,43,45,47,49,51,53,55,57,59,61,63,65,67]
theorem BJ_:gOk ak_ FL=true:=by decide
theorem mK_:FL.all (fun t=>iF_ (ak_ t))=true:=by decide
theorem AF_:(match Tryz.prog.underlying 67 with|some (.struct _)|some (.array _ _)=>true|_=>false)=true:=by kernel_rfl
theorem tT_ (f:Nat→Int) (hf:fOk f) {E:List Ent} (hE:ents (f 3) (f 49)=some E) (hc:clos (f 3)=none):Fn0 Tryz.prog 93 [fD f] (qy_ f):=by
 have h38:=tL_ f (susp f) hE hc
 have hfine:f4_ f=true:=by
  unfold clos at hc
  unfold f4_
  split at hc<;>first|(cases hc;done)|skip
  split at hc<;>first|(cases hc;done)|skip
  split at hc<;>first|(cases hc;done)|skip
  split at hc<;>first|(cases hc;done)|skip
  simp[*]
 have hput:=xD_ f (fup f0 49 (f 49)) 0 (E:=E) (by simpa [fup] using hE)
 obtain⟨A,hA⟩:∃ A,headE++E=A:=⟨_,rfl⟩
 have hlen:4+E.length=A.length:=by rw[← hA];simp
 have hl8:=du_ hE
 have hAok:A.all cF_=true:=by rw[← hA,List.all_append,dc_,b6_ hE];rfl
 refine ad_ (pn:=an_) ac_ Tryz.func93 rfl fun β0=>?_
 simp only[Tryz.f93]
 rw[fD]
 refine WP.seq ?_
 refine WP.region ac_ ?_
 simp -dsimp
 repeat refine aI ?_
 refine WP.seq ?_
 refine WP.region ac_ ?_
 simp -dsimp
 repeat refine aI ?_
 refine eI_ (mkS 98 [(1,.ptr 1 0),(2,.d (.v (.slice none 0 0))),(3,.d (.v (.bool false))),(4,.ptr 4 0)] [(1,fB f),(4,sB (susp f))]) ?_ ?_
 ·refine sG ?_
  refine WP.cond (b:=decide (f 54=1)) (by simp) (fun hb=>?_) (fun hb=>?_)
  ·refine sG ?_
   exact aY_ (af_ [] (by simp) (by simp[susp,of_decide_eq_true hb]))
  ·refine WP.skip ?_
   exact aY_ (af_ [] (by simp) (by simp[susp,of_decide_eq_false hb]))
 simp -dsimp
 repeat(first|apply wG|(apply wR;simp -dsimp[az_])|refine aI ?_)
 refine vcStop.call bD_ (h38) (rl [(1000,5),(1001,4),(0,700)]) rfl rfl (by simp[BoxLeq]) aGq (fun _ h=>h.elim) (fun ⟨_,h⟩=>h.elim) (fun ⟨_,h⟩=>h.elim) (by simp[BoxLeq]) ?_
 simp -dsimp
 refine sG ?_
 refine ae_ nB_ (fun _=>u9_) rfl (fun _=>rfl) (fun _=>by simp) ?_
 simp -dsimp
 refine sG ?_
 refine cF (by simp) ?_
 refine WP.skip ?_
 simp -dsimp
 repeat(first|apply wG|(apply wR;simp -dsimp[az_])|refine aI ?_)
 refine vcStop.call ci_ (iR_ f) (rl [(1000,5),(0,31)]) rfl rfl (by simp[BoxLeq]) aGq (fun _ h=>h.elim) (fun ⟨_,h⟩=>h.elim) (fun ⟨_,h⟩=>h.elim) (by simp[BoxLeq]) ?_
 simp -dsimp
 repeat(first|apply wG|(apply wR;simp -dsimp[az_])|refine aI ?_)
 refine vcStop.call hp_ (hput) (rl [(1000,7),(1001,10),(1002,1),(0,701)]) rfl rfl (by simp[BoxLeq]) aGq (fun _ h=>h.elim) (fun ⟨_,h⟩=>h.elim) (fun ⟨_,h⟩=>h.elim) (by simp[BoxLeq]) ?_
 simp -dsimp
 refine sG ?_
 have hl12:A.length≤12:=by omega
 refine ai_ (fun m S=>∃ A1 A2,A=A1++A2∧m=A2.length∧A1.all (inE f (susp f))=true∧S=sN f A A1) A.length (S0:=sN f A [])
  ((ct_ 2 500 3 1 rfl (by simp)).trans (af_ [] (by simp[sN,← hlen]) (by simp[sN,← hA,wrL,flL,rest0];rfl))) ⟨[],A,rfl,rfl,rfl,rfl⟩ ?_
 rintro _ _ ⟨A1,A2,hA12,rfl,hin,rfl⟩
 simp -dsimp[sN]
 refine sG ?_
 cases A2 with
 | nil =>
  simp only[List.append_nil] at hA12
  subst hA12
  have hr1:=kL_ hf hAok (flL (susp f) 0 A)
  have hnum:numF f=(A.map (valE f (susp f)),eqF (dV_ f (wrL f (rest0 f) A) (flL (susp f) 0 A)) f):=by simp only[numF,hE,hA,hfine,hin,Bool.and_self,if_true]
  generalize wrL f (rest0 f) A=G at *
  generalize flL (susp f) 0 A=fl at *
  refine cF (by simp) ?_
  refine WP.exit ?_
  simp -dsimp
  refine eI_ (mkS 98 [(1,.ptr 1 0),(2,.row 500),(7,.ptr 7 0),(10,.ptr 10 0)] [(1,fB f),(7,fB (if f 3=10 then G else fup G 49 0)),(10,sB fl),(500,rI (A.map (valE f (susp f))))]) ?_ ?_
  ·refine sG ?_
   refine WP.cond (b := !decide (f 3=10)) (by simp) (fun hb=>?_) (fun hb=>?_)
   ·have hb:¬ f 3=10:=by simpa using hb
    refine sG ?_
    exact aY_ (af_ [] (by simp) (by simp[hb]))
   ·have hb:f 3=10:=by simpa using hb
    refine WP.skip ?_
    exact aY_ (af_ [] (by simp) (by simp[hb]))
  simp -dsimp
  refine sG ?_
  refine er_ ac_ BJ_ mK_ rfl (.inl rfl) (m:=5) (by omega) dh_ (by decide) ee_ AF_ (cs:=fcs (dV_ f G fl) 0 57) (es:=fcs f 0 57) (by simp[dV_]) (by simp) (okF hr1.1) (okF hf.1) (fP_ hr1 hf) ?_
  simp -dsimp[eqRes]
  refine sG ?_
  refine WP.ret (aj_ (Wk.freeze (k:=500) (T:=3) (sz:=1) (ds:=iD (A.map (valE f (susp f)))) (by simp;rfl)) ?_)
  simp[qy_,hnum]
 | cons e A2 =>
  have hll:A.length=A1.length+(A2.length+1):=by rw[hA12];simp
  have e1:IntKind.i64.wrap ((A1.length:Int)+1)=(A1.length:Int)+1:=IntWalk.i64_in _ (by omega)
  refine cT (by simp;omega) ?_
  refine WP.skip ?_
  simp -dsimp
  refine WP.seq (WP.block ?_)
  have h1:=lx_ 5 4 A1 e A2
  have h2:=qS_ 7 10 A1 e A2
  have he:cF_ e=true:=by rw[hA12,List.all_append,List.all_cons] at hAok;simp only[Bool.and_eq_true] at hAok;exact hAok.2.1
  have hno:inE f (susp f) e=false→A.all (inE f (susp f))=false:=fun h=>by rw[hA12,List.all_append,List.all_cons,h];simp
  have hyes:inE f (susp f) e=true→(A1++[e]).all (inE f (susp f))=true:=fun h=>by rw[List.all_append,hin,List.all_cons,h];rfl
  rw[← hA12] at h1 h2
  obtain⟨o,lo,hi⟩:=e
  cases o with
  | some o =>
   have ho:o<57∧o≠54:=by simpa [cF_] using he
   simp only[locA] at h1 h2
   repeat(first|apply wG|(apply wR;simp -dsimp[h1,ho.1,ho.2])|refine aI ?_)
   refine WP.cond (b:=decide (f o<lo)||decide (hi<f o)) (by simp) (fun hb=>?_) (fun hb=>?_)
   ·have hn:=hno (wn_ hb)
    refine sG ?_
    refine WP.ret (ab_ ?_)
    simp -dsimp[qy_,numF,hE,hA,hn]
   ·refine WP.skip ?_
    simp -dsimp
    repeat(first|apply wG|(apply wR;simp -dsimp[h2,ho.1,ho.2])|refine aI ?_)
    refine loopW.next (sN f A (A1++[(some o,lo,hi)])) (Wk.go [13,82] 83 500 (by decide) (by simp[sN]) (by simp[sN,e1]) (by simp[sN,wrL_append,flL_append,wrL,flL,wrE,flE,valE])) A2.length (by simp) ⟨A1++[(some o,lo,hi)],A2,by simp[hA12],rfl,hyes (in_yes hb),rfl⟩
  | none =>
   simp only[locA] at h1 h2
   repeat(first|apply wG|(apply wR;simp -dsimp[h1])|refine aI ?_)
   refine WP.cond (b:=decide (susp f<lo)||decide (hi<susp f)) (by simp) (fun hb=>?_) (fun hb=>?_)
   ·have hn:=hno (wn_ hb)
    refine sG ?_
    refine WP.ret (ab_ ?_)
    simp -dsimp[qy_,numF,hE,hA,hn]
   ·refine WP.skip ?_
    simp -dsimp
    repeat(first|apply wG|(apply wR;simp -dsimp[h2])|refine aI ?_)
    refine loopW.next (sN f A (A1++[(none,lo,hi)])) (Wk.go [13,82] 83 500 (by decide) (by simp[sN]) (by simp[sN,e1]) (by simp[sN,wrL_append,flL_append,wrL,flL,wrE,flE,valE])) A2.length (by simp) ⟨A1++[(none,lo,hi)],A2,by simp[hA12],rfl,hyes (in_yes hb),rfl⟩
theorem fN_ (f:Nat→Int) (hf:fOk f) {E:List Ent} (hE:ents (f 3) (f 49)=some E) {T q off:Nat} (hc:clos (f 3)=some (T,q,off)) (hb:Body Tryz.prog q)
  (hq:Fun Tryz.prog q [.ptr 1000 0] [(1000,.cells T [.ptr 1001 off]),(1001,fB f)] (.d (.v (.bool (f4_ f)))) [(1000,.cells T [.ptr 1001 off]),(1001,fB f)] fun _=>False):Fn0 Tryz.prog 93 [fD f] (qy_ f):=by
 have h38:=tM_ f (susp f) hE hc
 have hput:=xD_ f (fup f0 49 (f 49)) 0 (E:=E) (by simpa [fup] using hE)
 obtain⟨A,hA⟩:∃ A,headE++E=A:=⟨_,rfl⟩
 have hlen:4+E.length=A.length:=by rw[← hA];simp
 have hl8:=du_ hE
 have hAok:A.all cF_=true:=by rw[← hA,List.all_append,dc_,b6_ hE];rfl
 refine ad_ (pn:=an_) ac_ Tryz.func93 rfl fun β0=>?_
 simp only[Tryz.f93]
 rw[fD]
 refine WP.seq ?_
 refine WP.region ac_ ?_
 simp -dsimp
 repeat refine aI ?_
 refine WP.seq ?_
 refine WP.region ac_ ?_
 simp -dsimp
 repeat refine aI ?_
 refine eI_ (mkS 98 [(1,.ptr 1 0),(2,.d (.v (.slice none 0 0))),(3,.d (.v (.bool false))),(4,.ptr 4 0)] [(1,fB f),(4,sB (susp f))]) ?_ ?_
 ·refine sG ?_
  refine WP.cond (b:=decide (f 54=1)) (by simp) (fun hb=>?_) (fun hb=>?_)
  ·refine sG ?_
   exact aY_ (af_ [] (by simp) (by simp[susp,of_decide_eq_true hb]))
  ·refine WP.skip ?_
   exact aY_ (af_ [] (by simp) (by simp[susp,of_decide_eq_false hb]))
 simp -dsimp
 repeat(first|apply wG|(apply wR;simp -dsimp[az_])|refine aI ?_)
 refine vcStop.call bD_ (h38) (rl [(1000,5),(1001,4),(0,700),(1,702)]) rfl rfl (by simp[BoxLeq]) aGq (fun _ h=>h.elim) (fun ⟨_,h⟩=>h.elim) (fun ⟨_,h⟩=>h.elim) (by simp[BoxLeq]) ?_
 simp -dsimp
 refine sG ?_
 refine dJ_ hb (fun _=>hq) (rl [(1000,702),(1001,5)]) rfl (fun _=>rfl) (fun _=>by simp) (fun _=>ag_ (by simp[BoxLeq]) rfl (by first|rfl|(simp;done)) (by simp) (by simp)) (fun _=>by simp) ?_
 simp -dsimp
 refine sG ?_
 cases hfine:f4_ f with
 | false =>
  refine cT (by simp) ?_
  refine sG ?_
  refine WP.ret (ab_ ?_)
  simp -dsimp[qy_,numF,hE,hfine]
 | true =>
 refine cF (by simp) ?_
 refine WP.skip ?_
 simp -dsimp
 repeat(first|apply wG|(apply wR;simp -dsimp[az_])|refine aI ?_)
 refine vcStop.call ci_ (iR_ f) (rl [(1000,5),(0,31)]) rfl rfl (by simp[BoxLeq]) aGq (fun _ h=>h.elim) (fun ⟨_,h⟩=>h.elim) (fun ⟨_,h⟩=>h.elim) (by simp[BoxLeq]) ?_
 simp -dsimp
 repeat(first|apply wG|(apply wR;simp -dsimp[az_])|refine aI ?_)
 refine vcStop.call hp_ (hput) (rl [(1000,7),(1001,10),(1002,1),(0,701)]) rfl rfl (by simp[BoxLeq]) aGq (fun _ h=>h.elim) (fun ⟨_,h⟩=>h.elim) (fun ⟨_,h⟩=>h.elim) (by simp[BoxLeq]) ?_
 simp -dsimp
 refine sG ?_
 have hl12:A.length≤12:=by omega
 refine ai_ (fun m S=>∃ A1 A2,A=A1++A2∧m=A2.length∧A1.all (inE f (susp f))=true∧S=sN f A A1) A.length (S0:=sN f A [])
  ((ct_ 2 500 3 1 rfl (by simp)).trans (af_ [] (by simp[sN,← hlen]) (by simp[sN,← hA,wrL,flL,rest0];rfl))) ⟨[],A,rfl,rfl,rfl,rfl⟩ ?_
 rintro _ _ ⟨A1,A2,hA12,rfl,hin,rfl⟩
 simp -dsimp[sN]
 refine sG ?_
 cases A2 with
 | nil =>
  simp only[List.append_nil] at hA12
  subst hA12
  have hr1:=kL_ hf hAok (flL (susp f) 0 A)
  have hnum:numF f=(A.map (valE f (susp f)),eqF (dV_ f (wrL f (rest0 f) A) (flL (susp f) 0 A)) f):=by simp only[numF,hE,hA,hfine,hin,Bool.and_self,if_true]
  generalize wrL f (rest0 f) A=G at *
  generalize flL (susp f) 0 A=fl at *
  refine cF (by simp) ?_
  refine WP.exit ?_
  simp -dsimp
  refine eI_ (mkS 98 [(1,.ptr 1 0),(2,.row 500),(7,.ptr 7 0),(10,.ptr 10 0)] [(1,fB f),(7,fB (if f 3=10 then G else fup G 49 0)),(10,sB fl),(500,rI (A.map (valE f (susp f))))]) ?_ ?_
  ·refine sG ?_
   refine WP.cond (b := !decide (f 3=10)) (by simp) (fun hb=>?_) (fun hb=>?_)
   ·have hb:¬ f 3=10:=by simpa using hb
    refine sG ?_
    exact aY_ (af_ [] (by simp) (by simp[hb]))
   ·have hb:f 3=10:=by simpa using hb
    refine WP.skip ?_
    exact aY_ (af_ [] (by simp) (by simp[hb]))
  simp -dsimp
  refine sG ?_
  refine er_ ac_ BJ_ mK_ rfl (.inl rfl) (m:=5) (by omega) dh_ (by decide) ee_ AF_ (cs:=fcs (dV_ f G fl) 0 57) (es:=fcs f 0 57) (by simp[dV_]) (by simp) (okF hr1.1) (okF hf.1) (fP_ hr1 hf) ?_
  simp -dsimp[eqRes]
  refine sG ?_
  refine WP.ret (aj_ (Wk.freeze (k:=500) (T:=3) (sz:=1) (ds:=iD (A.map (valE f (susp f)))) (by simp;rfl)) ?_)
  simp[qy_,hnum]
 | cons e A2 =>
  have hll:A.length=A1.length+(A2.length+1):=by rw[hA12];simp
  have e1:IntKind.i64.wrap ((A1.length:Int)+1)=(A1.length:Int)+1:=IntWalk.i64_in _ (by omega)
  refine cT (by simp;omega) ?_
  refine WP.skip ?_
  simp -dsimp
  refine WP.seq (WP.block ?_)
  have h1:=lx_ 5 4 A1 e A2
  have h2:=qS_ 7 10 A1 e A2
  have he:cF_ e=true:=by rw[hA12,List.all_append,List.all_cons] at hAok;simp only[Bool.and_eq_true] at hAok;exact hAok.2.1
  have hno:inE f (susp f) e=false→A.all (inE f (susp f))=false:=fun h=>by rw[hA12,List.all_append,List.all_cons,h];simp
  have hyes:inE f (susp f) e=true→(A1++[e]).all (inE f (susp f))=true:=fun h=>by rw[List.all_append,hin,List.all_cons,h];rfl
  rw[← hA12] at h1 h2
  obtain⟨o,lo,hi⟩:=e
  cases o with
  | some o =>
   have ho:o<57∧o≠54:=by simpa [cF_] using he
   simp only[locA] at h1 h2
   repeat(first|apply wG|(apply wR;simp -dsimp[h1,ho.1,ho.2])|refine aI ?_)
   refine WP.cond (b:=decide (f o<lo)||decide (hi<f o)) (by simp) (fun hb=>?_) (fun hb=>?_)
   ·have hn:=hno (wn_ hb)
    refine sG ?_
    refine WP.ret (ab_ ?_)
    simp -dsimp[qy_,numF,hE,hA,hn]
   ·refine WP.skip ?_
    simp -dsimp
    repeat(first|apply wG|(apply wR;simp -dsimp[h2,ho.1,ho.2])|refine aI ?_)
    refine loopW.next (sN f A (A1++[(some o,lo,hi)])) (Wk.go [13,82] 83 500 (by decide) (by simp[sN]) (by simp[sN,e1]) (by simp[sN,wrL_append,flL_append,wrL,flL,wrE,flE,valE])) A2.length (by simp) ⟨A1++[(some o,lo,hi)],A2,by simp[hA12],rfl,hyes (in_yes hb),rfl⟩
  | none =>
   simp only[locA] at h1 h2
   repeat(first|apply wG|(apply wR;simp -dsimp[h1])|refine aI ?_)
   refine WP.cond (b:=decide (susp f<lo)||decide (hi<susp f)) (by simp) (fun hb=>?_) (fun hb=>?_)
   ·have hn:=hno (wn_ hb)
    refine sG ?_
    refine WP.ret (ab_ ?_)
    simp -dsimp[qy_,numF,hE,hA,hn]
   ·refine WP.skip ?_
    simp -dsimp
    repeat(first|apply wG|(apply wR;simp -dsimp[h2])|refine aI ?_)
    refine loopW.next (sN f A (A1++[(none,lo,hi)])) (Wk.go [13,82] 83 500 (by decide) (by simp[sN]) (by simp[sN,e1]) (by simp[sN,wrL_append,flL_append,wrL,flL,wrE,flE,valE])) A2.length (by simp) ⟨A1++[(none,lo,hi)],A2,by simp[hA12],rfl,hyes (in_yes hb),rfl⟩
theorem rT_ (f:Nat→Int) (hE:ents (f 3) (f 49)=none):Fn0 Tryz.prog 93 [fD f] (qy_ f):=by
 have h38:=tK_ f (susp f) hE
 refine ad_ (pn:=an_) ac_ Tryz.func93 rfl fun β0=>?_
 simp only[Tryz.f93]
 rw[fD]
 refine WP.seq ?_
 refine WP.region ac_ ?_
 simp -dsimp
 repeat refine aI ?_
 refine WP.seq ?_
 refine WP.region ac_ ?_
 simp -dsimp
 repeat refine aI ?_
 refine eI_ (mkS 98 [(1,.ptr 1 0),(2,.d (.v (.slice none 0 0))),(3,.d (.v (.bool false))),(4,.ptr 4 0)] [(1,fB f),(4,sB (susp f))]) ?_ ?_
 ·refine sG ?_
  refine WP.cond (b:=decide (f 54=1)) (by simp) (fun hb=>?_) (fun hb=>?_)
  ·refine sG ?_
   exact aY_ (af_ [] (by simp) (by simp[susp,of_decide_eq_true hb]))
  ·refine WP.skip ?_
   exact aY_ (af_ [] (by simp) (by simp[susp,of_decide_eq_false hb]))
 simp -dsimp
 repeat(first|apply wG|(apply wR;simp -dsimp[az_])|refine aI ?_)
 refine vcStop.call bD_ (h38) (rl [(1000,5),(1001,4)]) rfl rfl (by simp[BoxLeq]) aGq (fun _ h=>h.elim) (fun ⟨_,h⟩=>h.elim) (fun ⟨_,h⟩=>h.elim) (by simp[BoxLeq]) ?_
 simp -dsimp
 refine sG ?_
 refine vcStopG.skip (.d (.v (.bool false))) ?_
 simp -dsimp
 refine sG ?_
 refine cT (by simp) ?_
 refine sG ?_
 refine WP.ret (ab_ ?_)
 simp -dsimp[qy_,numF,hE]
theorem j8_ (f:Nat→Int) (hf:fOk f):Fn0 Tryz.prog 93 [fD f] (qy_ f):=by
 cases hE:ents (f 3) (f 49) with
 | none=>exact rT_ f hE
 | some E =>
  cases hc:clos (f 3) with
  | none=>exact tT_ f hf hE hc
  | some p =>
   obtain⟨T,q,off⟩:=p
   have hk:f 3=4∨f 3=5∨f 3=6∨f 3=7:=by
    unfold clos at hc
    by_cases h:f 3=4∨f 3=5∨f 3=6∨f 3=7
    ·exact h
    ·simp only[not_or] at h
     simp[h] at hc
   rcases hk with h|h|h|h<;>have hc':=hc<;>rw[h] at hc'<;>simp[clos] at hc'<;>obtain⟨rfl,rfl,rfl⟩:=hc'
   ·exact fN_ f hf hE hc nA_ (by have:=BT_ f;simpa [f4_,h] using this)
   ·exact fN_ f hf hE hc nz_ (by have:=BS_ f;simpa [f4_,h] using this)
   ·exact fN_ f hf hE hc ny_ (by have:=BR_ f;simpa [f4_,h] using this)
   ·exact fN_ f hf hE hc nx_ (by have:=BQ_ f;simpa [f4_,h] using this)
end Go.Proofs.YtfgcgagcpnbgmaaGreatDoor
