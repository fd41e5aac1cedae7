/-
  Joined texts.
-/
import Derived.Test.YtfgcgagcpnbgmaaGreatDoorG6
import Derived.Test.YtfgcgagcpnbgmaaGreatDoorG4
set_option linter.all false
set_option maxRecDepth 10000
namespace Go.Proofs.YtfgcgagcpnbgmaaGreatDoor
open Go.Xe Go.RowKit
def fcell (f:Nat→Int) (i:Nat):D:=if i=54 then .v (.bool (decide (f 54=1))) else .v (.int .i64 (f i))
def fcs (f:Nat→Int) (o n:Nat):List D:=(List.range' o n).map (fcell f)
def fD (f:Nat→Int):D:=.agg (fcs f 0 57)
@[simp] def fB (f:Nat→Int):Box:=.cells 67 ((fcs f 0 57).map .d)
def fup (f:Nat→Int) (o:Nat) (x:Int):Nat→Int:=fun i=>if i=o then x else f i
def f0:Nat→Int:=fun _=>0
def fcp (f g:Nat→Int) (o n:Nat):Nat→Int:=fun i=>if o≤i∧i<o+n then g i else f i
@[simp] theorem r7_ (f:Nat→Int) (o n:Nat):(fcs f o n).length=n:=by simp[fcs]
@[simp] theorem Fq_ (f:Nat→Int) (o n k:Nat) (h:k<n):atL ((fcs f o n).map .d) k=.d (fcell f (o+k)):=by
 rw[← df_,List.getElem?_map,fcs,List.getElem?_map,List.getElem?_range' h]
 simp
@[simp] theorem wC_ (f:Nat→Int) (o n k:Nat):(fcs f o n).drop k=fcs f (o+k) (n-k):=by
 rw[fcs,← List.map_drop,List.drop_range']
 simp[fcs]
@[simp] theorem wA_ (f:Nat→Int) (o n k:Nat):(fcs f o n).take k=fcs f o (min k n):=by
 refine List.ext_getElem? fun i=>?_
 rw[List.getElem?_take]
 by_cases h:i<min k n
 ·rw[if_pos (by omega),fcs,fcs,List.getElem?_map,List.getElem?_map,List.getElem?_range' (by omega),List.getElem?_range' h]
 ·rw[List.getElem?_eq_none (l:=fcs f o (min k n)) (by simp;omega)]
  split
  ·rw[List.getElem?_eq_none (by simp;omega)]
  ·rfl
@[simp] theorem BY_ (f:Nat→Int) (o n k:Nat):((fcs f o n).map AV.d).drop k=(fcs f (o+k) (n-k)).map AV.d:=by rw[← List.map_drop,wC_]
@[simp] theorem BW_ (f:Nat→Int) (o n k:Nat):((fcs f o n).map AV.d).take k=(fcs f o (min k n)).map AV.d:=by rw[← List.map_take,wA_]
theorem c3_ (f:Nat→Int) (n k:Nat) (h:k<n) (o:Nat):(fcs f o n)[k]? = some (fcell f (o+k)):=by
 rw[fcs,List.getElem?_map,List.getElem?_range' h];simp
theorem zs_ {f g:Nat→Int} {o n:Nat} (h:∀ i,o≤i→i<o+n→fcell f i=fcell g i):fcs f o n=fcs g o n:=by
 rw[fcs,fcs]
 refine List.map_congr_left fun i hi=>?_
 simp at hi
 exact h i hi.1 hi.2
theorem m0_ (f:Nat→Int) (o:Nat) (x:Int) (i:Nat) (h:i≠o):fcell (fup f o x) i=fcell f i:=by
 unfold fcell fup
 split
 ·rename_i h';subst h';rw[if_neg h]
 ·first|rfl|rw[if_neg h]
@[simp] theorem DK_ (f:Nat→Int) (o:Nat) (x:Int) (h:o<57) (h':o≠54):((fcs f 0 57).map AV.d).set o (.d (.v (.int .i64 x)))=(fcs (fup f o x) 0 57).map AV.d:=by
 refine List.ext_getElem? fun i=>?_
 rw[List.getElem?_set]
 split
 ·rename_i e;subst e
  rw[if_pos (by simpa using h),List.getElem?_map,c3_ _ _ _ h]
  simp[fcell,h',fup]
 ·rename_i e
  rw[List.getElem?_map,List.getElem?_map]
  by_cases hi:i<57
  ·rw[c3_ _ _ _ hi,c3_ _ _ _ hi,Nat.zero_add,m0_ _ _ _ _ (Ne.symm e)]
  ·rw[List.getElem?_eq_none (by simpa using hi),List.getElem?_eq_none (by simpa using hi)]
@[simp] theorem BX_ (f:Nat→Int) (b:Bool):((fcs f 0 57).map AV.d).set 54 (.d (.v (.bool b)))=(fcs (fup f 54 (if b then 1 else 0)) 0 57).map AV.d:=by
 refine List.ext_getElem? fun i=>?_
 rw[List.getElem?_set]
 split
 ·rename_i e;subst e
  rw[if_pos (by simp),List.getElem?_map,c3_ _ _ _ (show 54<57 by decide)]
  cases b<;>simp[fcell,fup]
 ·rename_i e
  rw[List.getElem?_map,List.getElem?_map]
  by_cases hi:i<57
  ·rw[c3_ _ _ _ hi,c3_ _ _ _ hi,Nat.zero_add,m0_ _ _ _ _ (Ne.symm e)]
  ·rw[List.getElem?_eq_none (by simpa using hi),List.getElem?_eq_none (by simpa using hi)]
theorem kA_:∀ (xs cs:List AV) (o i:Nat),o+xs.length≤cs.length→(setL cs o xs)[i]? = if o≤i∧i<o+xs.length then xs[i-o]? else cs[i]?
 | [],cs,o,i,_=>by rw[setL,if_neg (by simp)]
 | x::xs,cs,o,i,h=>by
  simp only[List.length_cons] at h ⊢
  rw[setL,kA_ xs _ (o+1) i (by simp;omega),List.getElem?_set]
  by_cases h1:i=o
  ·subst h1
   rw[if_neg (by omega),if_pos rfl,if_pos (by omega),if_pos (by omega)]
   simp
  ·by_cases h2:o+1≤i∧i<o+1+xs.length
   ·rw[if_pos h2,if_pos (by omega),show i-o=(i-(o+1))+1 by omega]
    simp
   ·rw[if_neg h2,if_neg (Ne.symm h1),if_neg (by omega)]
@[simp] theorem Dv_ (f g:Nat→Int) (o n:Nat) (h:o+n≤57):setL ((fcs f 0 57).map AV.d) o ((fcs g o n).map AV.d)=(fcs (fcp f g o n) 0 57).map AV.d:=by
 refine List.ext_getElem? fun i=>?_
 rw[kA_ _ _ _ _ (by simpa using h),List.getElem?_map,List.getElem?_map,List.getElem?_map]
 simp only[List.length_map,r7_]
 by_cases hi:i<57
 ·rw[c3_ _ _ _ hi,c3_ _ _ _ hi]
  split
  ·rename_i hh
   rw[c3_ _ _ _ (by omega),show o+(i-o)=i by omega,Nat.zero_add]
   congr 2
   unfold fcell fcp
   split
   ·rename_i h';subst h';rw[if_pos hh]
   ·first|rfl|rw[if_pos hh]
  ·rename_i hh
   rw[Nat.zero_add]
   congr 2
   unfold fcell fcp
   split
   ·rename_i h';subst h';rw[if_neg hh]
   ·first|rfl|rw[if_neg hh]
 ·rw[if_neg (by omega),List.getElem?_eq_none (by simpa using hi),List.getElem?_eq_none (by simpa using hi)]
@[simp] theorem DJ_ (f:Nat→Int) (o n:Nat):vG_ ((fcs f o n).map AV.d)=some (fcs f o n):=by
 rw[fcs]
 generalize List.range' o n=l
 induction l with
 | nil=>rfl
 | cons i l ih =>
  rw[List.map_cons,List.map_cons,vG_,ih]
  unfold fcell
  split<;>rfl
@[simp] theorem Fb_ (f:Nat→Int) (o n:Nat):(∀ c∈(fcs f o n).map AV.d,oneA c=true)↔True:=by
 simp only[iff_true]
 intro c hc
 simp[fcs] at hc
 obtain⟨i,_,rfl⟩:=hc
 unfold fcell
 split<;>rfl
@[simp] theorem wB_ (f:Nat→Int) (o n:Nat):(∀ c∈fcs f o n,oneD c=true)↔True:=by
 simp only[iff_true]
 intro c hc
 simp[fcs] at hc
 obtain⟨i,_,rfl⟩:=hc
 unfold fcell
 split<;>rfl
@[simp] theorem us_ (f:Nat→Int) (i:Nat) (h:i≠54):fcell f i=.v (.int .i64 (f i)):=if_neg h
@[simp] theorem r9_ (f:Nat→Int):fcell f 54=.v (.bool (decide (f 54=1))):=rfl
theorem az_:([.d (.v (.int .i64 0)),.d (.v (.int .i64 0)),.d (.v (.int .i64 0)),.d (.v (.int .i64 0)),.d (.v (.int .i64 0)),.d (.v (.int .i64 0)),.d (.v (.int .i64 0)),.d (.v (.int .i64 0)),.d (.v (.int .i64 0)),.d (.v (.int .i64 0)),.d (.v (.int .i64 0)),.d (.v (.int .i64 0)),.d (.v (.int .i64 0)),.d (.v (.int .i64 0)),.d (.v (.int .i64 0)),.d (.v (.int .i64 0)),.d (.v (.int .i64 0)),.d (.v (.int .i64 0)),.d (.v (.int .i64 0)),.d (.v (.int .i64 0)),.d (.v (.int .i64 0)),.d (.v (.int .i64 0)),.d (.v (.int .i64 0)),.d (.v (.int .i64 0)),.d (.v (.int .i64 0)),.d (.v (.int .i64 0)),.d (.v (.int .i64 0)),.d (.v (.int .i64 0)),.d (.v (.int .i64 0)),.d (.v (.int .i64 0)),.d (.v (.int .i64 0)),.d (.v (.int .i64 0)),.d (.v (.int .i64 0)),.d (.v (.int .i64 0)),.d (.v (.int .i64 0)),.d (.v (.int .i64 0)),.d (.v (.int .i64 0)),.d (.v (.int .i64 0)),.d (.v (.int .i64 0)),.d (.v (.int .i64 0)),.d (.v (.int .i64 0)),.d (.v (.int .i64 0)),.d (.v (.int .i64 0)),.d (.v (.int .i64 0)),.d (.v (.int .i64 0)),.d (.v (.int .i64 0)),.d (.v (.int .i64 0)),.d (.v (.int .i64 0)),.d (.v (.int .i64 0)),.d (.v (.int .i64 0)),.d (.v (.int .i64 0)),.d (.v (.int .i64 0)),.d (.v (.int .i64 0)),.d (.v (.int .i64 0)),.d (.v (.bool false)),.d (.v (.int .i64 0)),.d (.v (.int .i64 0))]:List AV)=(fcs f0 0 57).map AV.d:=by
 simp[fcs,f0,List.range']
abbrev Ent:=Option Nat×Int×Int
def locA (kf ks:Nat):Option Nat→AV
 | some o=>.ptr kf o
 | none=>.ptr ks 0
def bH_ (kf ks:Nat):List Ent→List AV
 | []=>[]
 | (o,lo,hi)::r=>locA kf ks o :: .d (.v (.int .i64 lo)) :: .d (.v (.int .i64 hi))::bH_ kf ks r
theorem iX_ (kf ks:Nat):∀ E:List Ent,(bH_ kf ks E).length=E.length*3
 | []=>rfl
 | (o,lo,hi)::r=>by simp[bH_,iX_ kf ks r];omega
def headE:List Ent:=[(some 3,1,13),(some 0,0,31),(some 1,1,1048576),(some 2,0,1099511627776)]
def dQ_ (rk:Int):List Ent :=
 [(some 47,1,1048576),(some 48,1,2),(some 49,1,5)] ++
  (if rk=1∨rk=2 then [(some 50,0,0),(some 51,0,0)] else [(some 50,1,9999),(some 51,0,255)]) ++
  [if rk=3 then (some 52,1,1099511627776) else if rk=4 then (some 52,1,64) else (some 52,0,0)]
def ents (k rk:Int):Option (List Ent) :=
 if k=1 then some [(some 4,1,9999),(some 5,0,7),(some 6,0,31),(some 7,-1099511627776,1099511627776),(some 8,0,120),(some 9,0,1048576),(some 10,0,9999),(some 11,0,1048576)]
 else if k=2 then some [(some 12,0,39),(some 13,0,255),(some 14,0,1048576),(some 15,-1099511627776,1099511627776)]
 else if k=3 then some [(some 16,0,39),(some 17,0,255),(some 18,-1099511627776,1099511627776),(some 19,-1099511627776,1099511627776),(some 20,0,1099511627776)]
 else if k=4 then some [(some 21,0,39),(some 22,0,255),(some 23,-1099511627776,1099511627776),(some 24,0,39),(some 25,0,255),(some 26,-1099511627776,1099511627776),(some 27,-1099511627776,1099511627776),(some 28,-1099511627776,1099511627776)]
 else if k=5 then some [(some 29,1,9999),(some 30,0,255),(some 31,-1099511627776,1099511627776),(some 32,-1099511627776,1099511627776)]
 else if k=6 then some [(some 33,0,39),(some 34,0,255),(some 35,-1099511627776,1099511627776),(some 36,-1099511627776,1099511627776)]
 else if k=7 then some [(some 37,1,9999),(some 38,1,9999)]
 else if k=8 then some [(some 39,1,1048576),(some 40,1,9999),(some 41,0,31),(some 42,0,255)]
 else if k=9 then some [(some 43,1,1048576),(some 44,0,9999),(some 45,0,1125899906842624),(some 46,0,1)]
 else if k=10 then some (dQ_ rk)
 else if k=11 then some [(some 53,1,1048576),(none,0,1)]
 else if k=12 then some []
 else if k=13 then some [(some 55,0,31),(some 56,1,1048576)]
 else none
theorem iR_ (f:Nat→Int):Fun Tryz.prog 163 [.ptr 1000 0] [(1000,fB f)] (.row 0) [(1000,fB f),(0,.row 238 3 4 (bH_ 1000 1000 headE))] fun _=>False:=by
 refine ad_ (pn:=an_) ac_ Tryz.func163 rfl fun β0=>?_
 simp only[Tryz.f163]
 refine sG ?_
 refine ar_ (aI_ 23 0 (by decide) (by simp)) ?_
 simp -dsimp
 refine WP.ret (ab_ ?_)
 simp -dsimp[headE,bH_,locA]
@[simp] def sB (s:Int):Box:=.cells 3 [.d (.v (.int .i64 s))]
theorem Bc_ (f:Nat→Int) (s:Int) (hk:f 3=1) {E:List Ent} (hE:ents (f 3) (f 49)=some E) :
  Fun Tryz.prog 161 [.ptr 1000 0,.ptr 1001 0] [(1000,fB f),(1001,sB s)] (.tup [.agg [.row 0,.d (.v (.func (.func 207) #[] #[]))],.d (.v (.bool true))]) [(1000,fB f),(1001,sB s),(0,.row 238 3 E.length (bH_ 1000 1001 E))] fun _=>False:=by
 rw[hk] at hE
 simp[ents] at hE
 subst hE
 refine ad_ (pn:=an_) ac_ Tryz.func161 rfl fun β0=>?_
 simp only[Tryz.f161]
 refine sG ?_
 rw[hk]
 refine cT (by simp) ?_
 refine sG ?_
 refine ar_ (aI_ 68 0 (by decide) (by simp)) ?_
 simp -dsimp
 refine WP.ret (ab_ ?_)
 simp -dsimp[bH_,locA]
theorem Bb_ (f:Nat→Int) (s:Int) (hk:f 3=2) {E:List Ent} (hE:ents (f 3) (f 49)=some E) :
  Fun Tryz.prog 161 [.ptr 1000 0,.ptr 1001 0] [(1000,fB f),(1001,sB s)] (.tup [.agg [.row 0,.d (.v (.func (.func 207) #[] #[]))],.d (.v (.bool true))]) [(1000,fB f),(1001,sB s),(0,.row 238 3 E.length (bH_ 1000 1001 E))] fun _=>False:=by
 rw[hk] at hE
 simp[ents] at hE
 subst hE
 refine ad_ (pn:=an_) ac_ Tryz.func161 rfl fun β0=>?_
 simp only[Tryz.f161]
 refine sG ?_
 rw[hk]
 refine cF (by simp) ?_
 refine sG ?_
 refine cT (by simp) ?_
 refine sG ?_
 refine ar_ (aI_ 95 0 (by decide) (by simp)) ?_
 simp -dsimp
 refine WP.ret (ab_ ?_)
 simp -dsimp[bH_,locA]
theorem Ba_ (f:Nat→Int) (s:Int) (hk:f 3=3) {E:List Ent} (hE:ents (f 3) (f 49)=some E) :
  Fun Tryz.prog 161 [.ptr 1000 0,.ptr 1001 0] [(1000,fB f),(1001,sB s)] (.tup [.agg [.row 0,.d (.v (.func (.func 207) #[] #[]))],.d (.v (.bool true))]) [(1000,fB f),(1001,sB s),(0,.row 238 3 E.length (bH_ 1000 1001 E))] fun _=>False:=by
 rw[hk] at hE
 simp[ents] at hE
 subst hE
 refine ad_ (pn:=an_) ac_ Tryz.func161 rfl fun β0=>?_
 simp only[Tryz.f161]
 refine sG ?_
 rw[hk]
 refine cF (by simp) ?_
 refine sG ?_
 refine cF (by simp) ?_
 refine sG ?_
 refine cT (by simp) ?_
 refine sG ?_
 refine ar_ (aI_ 127 0 (by decide) (by simp)) ?_
 simp -dsimp
 refine WP.ret (ab_ ?_)
 simp -dsimp[bH_,locA]
theorem A5_ (f:Nat→Int) (s:Int) (hk:f 3=8) {E:List Ent} (hE:ents (f 3) (f 49)=some E) :
  Fun Tryz.prog 161 [.ptr 1000 0,.ptr 1001 0] [(1000,fB f),(1001,sB s)] (.tup [.agg [.row 0,.d (.v (.func (.func 207) #[] #[]))],.d (.v (.bool true))]) [(1000,fB f),(1001,sB s),(0,.row 238 3 E.length (bH_ 1000 1001 E))] fun _=>False:=by
 rw[hk] at hE
 simp[ents] at hE
 subst hE
 refine ad_ (pn:=an_) ac_ Tryz.func161 rfl fun β0=>?_
 simp only[Tryz.f161]
 refine sG ?_
 rw[hk]
 refine cF (by simp) ?_
 refine sG ?_
 refine cF (by simp) ?_
 refine sG ?_
 refine cF (by simp) ?_
 refine sG ?_
 refine cF (by simp) ?_
 refine sG ?_
 refine cF (by simp) ?_
 refine sG ?_
 refine cF (by simp) ?_
 refine sG ?_
 refine cF (by simp) ?_
 refine sG ?_
 refine cT (by simp) ?_
 refine sG ?_
 refine ar_ (aI_ 276 0 (by decide) (by simp)) ?_
 simp -dsimp
 refine WP.ret (ab_ ?_)
 simp -dsimp[bH_,locA]
theorem A4_ (f:Nat→Int) (s:Int) (hk:f 3=9) {E:List Ent} (hE:ents (f 3) (f 49)=some E) :
  Fun Tryz.prog 161 [.ptr 1000 0,.ptr 1001 0] [(1000,fB f),(1001,sB s)] (.tup [.agg [.row 0,.d (.v (.func (.func 207) #[] #[]))],.d (.v (.bool true))]) [(1000,fB f),(1001,sB s),(0,.row 238 3 E.length (bH_ 1000 1001 E))] fun _=>False:=by
 rw[hk] at hE
 simp[ents] at hE
 subst hE
 refine ad_ (pn:=an_) ac_ Tryz.func161 rfl fun β0=>?_
 simp only[Tryz.f161]
 refine sG ?_
 rw[hk]
 refine cF (by simp) ?_
 refine sG ?_
 refine cF (by simp) ?_
 refine sG ?_
 refine cF (by simp) ?_
 refine sG ?_
 refine cF (by simp) ?_
 refine sG ?_
 refine cF (by simp) ?_
 refine sG ?_
 refine cF (by simp) ?_
 refine sG ?_
 refine cF (by simp) ?_
 refine sG ?_
 refine cF (by simp) ?_
 refine sG ?_
 refine cT (by simp) ?_
 refine sG ?_
 refine ar_ (aI_ 303 0 (by decide) (by simp)) ?_
 simp -dsimp
 refine WP.ret (ab_ ?_)
 simp -dsimp[bH_,locA]
theorem yV_ (f:Nat→Int) (s:Int) (hk:f 3=11) {E:List Ent} (hE:ents (f 3) (f 49)=some E) :
  Fun Tryz.prog 161 [.ptr 1000 0,.ptr 1001 0] [(1000,fB f),(1001,sB s)] (.tup [.agg [.row 0,.d (.v (.func (.func 207) #[] #[]))],.d (.v (.bool true))]) [(1000,fB f),(1001,sB s),(0,.row 238 3 E.length (bH_ 1000 1001 E))] fun _=>False:=by
 rw[hk] at hE
 simp[ents] at hE
 subst hE
 refine ad_ (pn:=an_) ac_ Tryz.func161 rfl fun β0=>?_
 simp only[Tryz.f161]
 refine sG ?_
 rw[hk]
 refine cF (by simp) ?_
 refine sG ?_
 refine cF (by simp) ?_
 refine sG ?_
 refine cF (by simp) ?_
 refine sG ?_
 refine cF (by simp) ?_
 refine sG ?_
 refine cF (by simp) ?_
 refine sG ?_
 refine cF (by simp) ?_
 refine sG ?_
 refine cF (by simp) ?_
 refine sG ?_
 refine cF (by simp) ?_
 refine sG ?_
 refine cF (by simp) ?_
 refine sG ?_
 refine cF (by simp) ?_
 refine sG ?_
 refine cT (by simp) ?_
 refine sG ?_
 refine ar_ (aI_ 371 0 (by decide) (by simp)) ?_
 simp -dsimp
 refine WP.ret (ab_ ?_)
 simp -dsimp[bH_,locA]
theorem yT_ (f:Nat→Int) (s:Int) (hk:f 3=13) {E:List Ent} (hE:ents (f 3) (f 49)=some E) :
  Fun Tryz.prog 161 [.ptr 1000 0,.ptr 1001 0] [(1000,fB f),(1001,sB s)] (.tup [.agg [.row 0,.d (.v (.func (.func 207) #[] #[]))],.d (.v (.bool true))]) [(1000,fB f),(1001,sB s),(0,.row 238 3 E.length (bH_ 1000 1001 E))] fun _=>False:=by
 rw[hk] at hE
 simp[ents] at hE
 subst hE
 refine ad_ (pn:=an_) ac_ Tryz.func161 rfl fun β0=>?_
 simp only[Tryz.f161]
 refine sG ?_
 rw[hk]
 refine cF (by simp) ?_
 refine sG ?_
 refine cF (by simp) ?_
 refine sG ?_
 refine cF (by simp) ?_
 refine sG ?_
 refine cF (by simp) ?_
 refine sG ?_
 refine cF (by simp) ?_
 refine sG ?_
 refine cF (by simp) ?_
 refine sG ?_
 refine cF (by simp) ?_
 refine sG ?_
 refine cF (by simp) ?_
 refine sG ?_
 refine cF (by simp) ?_
 refine sG ?_
 refine cF (by simp) ?_
 refine sG ?_
 refine cF (by simp) ?_
 refine sG ?_
 refine cF (by simp) ?_
 refine sG ?_
 refine cT (by simp) ?_
 refine sG ?_
 refine ar_ (aI_ 390 0 (by decide) (by simp)) ?_
 simp -dsimp
 refine WP.ret (ab_ ?_)
 simp -dsimp[bH_,locA]
end Go.Proofs.YtfgcgagcpnbgmaaGreatDoor
