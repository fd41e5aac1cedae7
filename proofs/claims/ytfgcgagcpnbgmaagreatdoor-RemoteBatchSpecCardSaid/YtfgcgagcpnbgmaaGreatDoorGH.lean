/-
  Joined texts.
-/
import Derived.Test.YtfgcgagcpnbgmaaGreatDoorGG
set_option linter.all false
set_option maxRecDepth 10000
namespace Go.Proofs.YtfgcgagcpnbgmaaGreatDoor
open Go.Xe Go.RowKit
def hasE (A:List Ent) (i:Nat):Bool:=A.any fun e=>decide (e.1=some i)
theorem jQ_ (f:Nat→Int):∀ (A:List Ent) (g:Nat→Int) (i:Nat),wrL f g A i=if hasE A i=true then f i else g i
 | [],g,i=>by simp[wrL,hasE]
 | (some o,lo,hi)::A,g,i=>by
  rw[wrL,jQ_ f A]
  have:hasE ((some o,lo,hi)::A) i=(decide (o=i)||hasE A i):=by simp[hasE]
  rw[this]
  by_cases h1:hasE A i=true
  ·simp[h1]
  ·simp only[h1,Bool.or_false,decide_eq_true_eq]
   simp only[wrE,fup]
   by_cases h2:o=i
   ·subst h2;simp
   ·rw[if_neg h2,if_neg (by simp),if_neg (Ne.symm h2)]
 | (none,lo,hi)::A,g,i=>by
  rw[wrL,jQ_ f A]
  have:hasE ((none,lo,hi)::A) i=hasE A i:=by simp[hasE]
  rw[this]
  rfl
theorem ul_ (s:Int):∀ (A:List Ent) (x:Int),flL s x A=if (A.any fun e=>e.1.isNone)=true then s else x
 | [],x=>by simp[flL]
 | (some o,lo,hi)::A,x=>by
  have e:(List.any ((some o,lo,hi)::A) fun e=>e.1.isNone)=A.any fun e=>e.1.isNone:=rfl
  rw[flL,ul_ s A,e]
  rfl
 | (none,lo,hi)::A,x=>by rw[flL,ul_ s A];simp[flE]
theorem ud_:∀ {A:List Ent} {i:Nat},A.all cF_=true→hasE A i=true→i<57
 | [],i,_,h=>by simp[hasE] at h
 | (o,lo,hi)::A,i,hA,h=>by
  rw[List.all_cons,Bool.and_eq_true] at hA
  simp only[hasE,List.any_cons,Bool.or_eq_true,decide_eq_true_eq] at h
  rcases h with h|h
  ·subst h
   have:=hA.1
   simp only[cF_,Bool.and_eq_true,decide_eq_true_eq] at this
   exact this.1
  ·exact ud_ hA.2 h
def inP (p:Nat×Nat) (i:Nat):Bool:=decide (p.1≤i)&&decide (i<p.1+p.2)
def tS_ (A:List Ent) (p:Nat×Nat) (k:Int):Bool :=
 ((List.range 57).all fun i=>decide (i=54)||(hasE A i == (decide (i<4)||inP p i)))&&decide (p.1+p.2≤57)&&((A.any fun e=>e.1.isNone) == inP p 54)&&(inP p 49 == decide (k=10))
theorem td_ {f:Nat→Int} (hf:fOk f) {A:List Ent} (hA:A.all cF_=true) (hp:tS_ A (partF (f 3)) (f 3)=true):dV_ f (wrL f (rest0 f) A) (flL (susp f) 0 A)=bt_ f:=by
 unfold bt_
 generalize partF (f 3)=p at *
 unfold tS_ at hp
 simp only[Bool.and_eq_true,List.all_eq_true,decide_eq_true_eq,beq_iff_eq] at hp
 obtain⟨⟨⟨h1,h2⟩,h3⟩,h4⟩:=hp
 funext i
 have hin:(p.1≤i∧i<p.1+p.2)↔inP p i=true:=by simp[inP]
 by_cases e54:i=54
 ·subst e54
  have hb:c5_ f 54=0:=rfl
  simp only[dV_,fup,fcp,if_true,ul_,h3,hin]
  cases inP p 54 with
  | false=>simp[hb]
  | true =>
   simp only[if_true,susp]
   rcases hf.2.1 with h|h<;>rw[h]<;>rfl
 ·have hG:=jQ_ f A (rest0 f) i
  have hr:dV_ f (wrL f (rest0 f) A) (flL (susp f) 0 A) i=if f 3=10 then wrL f (rest0 f) A i else if i=49 then 0 else wrL f (rest0 f) A i:=by
   simp only[dV_]
   rw[fup,if_neg e54]
   split
   ·rfl
   ·rw[fup]
  rw[hr,hG]
  by_cases h57:i<57
  ·have hi:=h1 i (by simpa using h57)
   simp only[e54,decide_false,Bool.false_or,beq_iff_eq] at hi
   rw[hi]
   simp only[fcp,hin]
   by_cases e49:i=49
   ·subst e49
    have hb:c5_ f 49=0:=rfl
    rw[h4,hb]
    by_cases hk:f 3=10
    ·simp[hk]
    ·simp[hk]
   ·have hr0:rest0 f i=if i=3 then f 3 else 0:=by simp only[rest0,fup,f0,e49,if_false]
    rw[hr0]
    simp only[e49,if_false]
    have hb:c5_ f i=if i<4 then f i else 0:=by
     simp only[c5_,fup,f0]
     by_cases h:i<4
     ·have:i=0∨i=1∨i=2∨i=3:=by omega
      rcases this with rfl|rfl|rfl|rfl<;>simp
     ·rw[if_neg h,if_neg (by omega),if_neg (by omega),if_neg (by omega),if_neg (by omega)]
    rw[hb]
    cases hq:inP p i with
    | true=>simp
    | false =>
     by_cases h:i<4
     ·simp[h]
     ·have:i≠3:=by omega
      simp[h,this]
  ·have h5:hasE A i=false:=by
    cases hh:hasE A i with
    | false=>rfl
    | true=>exact absurd (ud_ hA hh) h57
   rw[h5]
   have h6:¬ (p.1≤i∧i<p.1+p.2):=by omega
   have a0:i≠0:=by omega
   have a1:i≠1:=by omega
   have a2:i≠2:=by omega
   have a3:i≠3:=by omega
   have a49:i≠49:=by omega
   simp[fcp,h6,c5_,rest0,fup,f0,a0,a1,a2,a3,a49]
theorem wE_ (f g:Nat→Int):eqF f g=eqF g f:=by
 unfold eqF
 congr 1
 funext i
 rw[Bool.eq_iff_iff]
 simp only[decide_eq_true_eq]
 exact eq_comm
theorem b1_ {f:Nat→Int} (hf:fOk f) {E:List Ent} (hE:ents (f 3) (f 49)=some E) (hp:tS_ (headE++E) (partF (f 3)) (f 3)=true)
  (hc:(f4_ f&&(headE++E).all (inE f (susp f)))=(inB (f 0) 0 31&&inB (f 1) 1 1048576&&inB (f 2) 0 1099511627776&&conF f)) (hl:(headE++E).map (valE f (susp f))=aN_ f) :
  (numF f).2=dj_ f∧(dj_ f=true→(numF f).1=aN_ f):=by
 have hA:(headE++E).all cF_=true:=by rw[List.all_append,dc_,b6_ hE];rfl
 have hr:=td_ hf hA hp
 unfold numF
 rw[hE]
 simp only
 rw[hr,hl,hc]
 unfold dj_
 rw[wE_ f (bt_ f)]
 cases (inB (f 0) 0 31&&inB (f 1) 1 1048576&&inB (f 2) 0 1099511627776&&conF f)<;>simp
theorem bp_ (f:Nat→Int) (s:Int) (e:Ent):inE f s e=true↔e.2.1≤valE f s e∧valE f s e≤e.2.2:=by
 rw[inE,Bool.and_eq_true,decide_eq_true_eq,decide_eq_true_eq]
theorem EV_ {f:Nat→Int} (hf:fOk f) (hk:f 3=1) {E:List Ent} (hE:ents (f 3) (f 49)=some E):(numF f).2=dj_ f∧(dj_ f=true→(numF f).1=aN_ f):=by
 have hE0:=hE
 rw[hk] at hE0
 simp[ents] at hE0
 subst hE0
 refine b1_ hf hE (by rw[hk];decide) ?_ (by simp[valE,headE,aN_,hk])
 rw[Bool.eq_iff_iff]
 simp[f4_,conF,bp_,valE,headE,hk]
 all_goals omega
theorem EU_ {f:Nat→Int} (hf:fOk f) (hk:f 3=2) {E:List Ent} (hE:ents (f 3) (f 49)=some E):(numF f).2=dj_ f∧(dj_ f=true→(numF f).1=aN_ f):=by
 have hE0:=hE
 rw[hk] at hE0
 simp[ents] at hE0
 subst hE0
 refine b1_ hf hE (by rw[hk];decide) ?_ (by simp[valE,headE,aN_,hk])
 rw[Bool.eq_iff_iff]
 simp[f4_,conF,bp_,valE,headE,hk]
 all_goals omega
theorem ET_ {f:Nat→Int} (hf:fOk f) (hk:f 3=3) {E:List Ent} (hE:ents (f 3) (f 49)=some E):(numF f).2=dj_ f∧(dj_ f=true→(numF f).1=aN_ f):=by
 have hE0:=hE
 rw[hk] at hE0
 simp[ents] at hE0
 subst hE0
 refine b1_ hf hE (by rw[hk];decide) ?_ (by simp[valE,headE,aN_,hk])
 rw[Bool.eq_iff_iff]
 simp[f4_,conF,bp_,valE,headE,hk]
 all_goals omega
theorem ES_ {f:Nat→Int} (hf:fOk f) (hk:f 3=4) {E:List Ent} (hE:ents (f 3) (f 49)=some E):(numF f).2=dj_ f∧(dj_ f=true→(numF f).1=aN_ f):=by
 have hE0:=hE
 rw[hk] at hE0
 simp[ents] at hE0
 subst hE0
 refine b1_ hf hE (by rw[hk];decide) ?_ (by simp[valE,headE,aN_,hk])
 rw[Bool.eq_iff_iff]
 simp[f4_,conF,bp_,valE,headE,hk]
 all_goals omega
theorem ER_ {f:Nat→Int} (hf:fOk f) (hk:f 3=5) {E:List Ent} (hE:ents (f 3) (f 49)=some E):(numF f).2=dj_ f∧(dj_ f=true→(numF f).1=aN_ f):=by
 have hE0:=hE
 rw[hk] at hE0
 simp[ents] at hE0
 subst hE0
 refine b1_ hf hE (by rw[hk];decide) ?_ (by simp[valE,headE,aN_,hk])
 rw[Bool.eq_iff_iff]
 simp[f4_,conF,bp_,valE,headE,hk]
 all_goals omega
theorem EQ_ {f:Nat→Int} (hf:fOk f) (hk:f 3=6) {E:List Ent} (hE:ents (f 3) (f 49)=some E):(numF f).2=dj_ f∧(dj_ f=true→(numF f).1=aN_ f):=by
 have hE0:=hE
 rw[hk] at hE0
 simp[ents] at hE0
 subst hE0
 refine b1_ hf hE (by rw[hk];decide) ?_ (by simp[valE,headE,aN_,hk])
 rw[Bool.eq_iff_iff]
 simp[f4_,conF,bp_,valE,headE,hk]
 all_goals omega
theorem EP_ {f:Nat→Int} (hf:fOk f) (hk:f 3=7) {E:List Ent} (hE:ents (f 3) (f 49)=some E):(numF f).2=dj_ f∧(dj_ f=true→(numF f).1=aN_ f):=by
 have hE0:=hE
 rw[hk] at hE0
 simp[ents] at hE0
 subst hE0
 refine b1_ hf hE (by rw[hk];decide) ?_ (by simp[valE,headE,aN_,hk])
 rw[Bool.eq_iff_iff]
 simp[f4_,conF,bp_,valE,headE,hk]
 all_goals omega
theorem EO_ {f:Nat→Int} (hf:fOk f) (hk:f 3=8) {E:List Ent} (hE:ents (f 3) (f 49)=some E):(numF f).2=dj_ f∧(dj_ f=true→(numF f).1=aN_ f):=by
 have hE0:=hE
 rw[hk] at hE0
 simp[ents] at hE0
 subst hE0
 refine b1_ hf hE (by rw[hk];decide) ?_ (by simp[valE,headE,aN_,hk])
 rw[Bool.eq_iff_iff]
 simp[f4_,conF,bp_,valE,headE,hk]
 all_goals omega
theorem EN_ {f:Nat→Int} (hf:fOk f) (hk:f 3=9) {E:List Ent} (hE:ents (f 3) (f 49)=some E):(numF f).2=dj_ f∧(dj_ f=true→(numF f).1=aN_ f):=by
 have hE0:=hE
 rw[hk] at hE0
 simp[ents] at hE0
 subst hE0
 refine b1_ hf hE (by rw[hk];decide) ?_ (by simp[valE,headE,aN_,hk])
 rw[Bool.eq_iff_iff]
 simp[f4_,conF,bp_,valE,headE,hk]
 all_goals omega
theorem Bu_ {f:Nat→Int} (hf:fOk f) (hk:f 3=11) {E:List Ent} (hE:ents (f 3) (f 49)=some E):(numF f).2=dj_ f∧(dj_ f=true→(numF f).1=aN_ f):=by
 have hE0:=hE
 rw[hk] at hE0
 simp[ents] at hE0
 subst hE0
 refine b1_ hf hE (by rw[hk];decide) ?_ (by simp[valE,headE,aN_,hk,susp])
 rw[Bool.eq_iff_iff]
 have hs:0≤susp f∧susp f≤1:=by unfold susp;split<;>omega
 simp[f4_,conF,bp_,valE,headE,hk,hs]
 all_goals omega
theorem Bt_ {f:Nat→Int} (hf:fOk f) (hk:f 3=12) {E:List Ent} (hE:ents (f 3) (f 49)=some E):(numF f).2=dj_ f∧(dj_ f=true→(numF f).1=aN_ f):=by
 have hE0:=hE
 rw[hk] at hE0
 simp[ents] at hE0
 subst hE0
 refine b1_ hf hE (by rw[hk];decide) ?_ (by simp[valE,headE,aN_,hk])
 rw[Bool.eq_iff_iff]
 simp[f4_,conF,bp_,valE,headE,hk]
 all_goals omega
theorem Bs_ {f:Nat→Int} (hf:fOk f) (hk:f 3=13) {E:List Ent} (hE:ents (f 3) (f 49)=some E):(numF f).2=dj_ f∧(dj_ f=true→(numF f).1=aN_ f):=by
 have hE0:=hE
 rw[hk] at hE0
 simp[ents] at hE0
 subst hE0
 refine b1_ hf hE (by rw[hk];decide) ?_ (by simp[valE,headE,aN_,hk])
 rw[Bool.eq_iff_iff]
 simp[f4_,conF,bp_,valE,headE,hk]
 all_goals omega
theorem Bv_ {f:Nat→Int} (hf:fOk f) (hk:f 3=10) {E:List Ent} (hE:ents (f 3) (f 49)=some E):(numF f).2=dj_ f∧(dj_ f=true→(numF f).1=aN_ f):=by
 have hE0:=hE
 rw[hk] at hE0
 simp[ents] at hE0
 have hr:f 49=1∨f 49=2∨f 49=3∨f 49=4∨f 49=5∨(f 49≠1∧f 49≠2∧f 49≠3∧f 49≠4∧f 49≠5):=by omega
 rcases hr with hr|hr|hr|hr|hr|hr
 ·have e:E=[(some 47,1,1048576),(some 48,1,2),(some 49,1,5),(some 50,0,0),(some 51,0,0),(some 52,0,0)]:=by rw[← hE0];simp[dQ_,hr]
  subst e
  refine b1_ hf hE (by rw[hk];decide) ?_ (by simp[valE,headE,aN_,hk])
  rw[Bool.eq_iff_iff]
  simp[f4_,conF,ta_,rC_,bp_,valE,headE,hk,hr]
  all_goals omega
 ·have e:E=[(some 47,1,1048576),(some 48,1,2),(some 49,1,5),(some 50,0,0),(some 51,0,0),(some 52,0,0)]:=by rw[← hE0];simp[dQ_,hr]
  subst e
  refine b1_ hf hE (by rw[hk];decide) ?_ (by simp[valE,headE,aN_,hk])
  rw[Bool.eq_iff_iff]
  simp[f4_,conF,ta_,rC_,bp_,valE,headE,hk,hr]
  all_goals omega
 ·have e:E=[(some 47,1,1048576),(some 48,1,2),(some 49,1,5),(some 50,1,9999),(some 51,0,255),(some 52,1,1099511627776)]:=by rw[← hE0];simp[dQ_,hr]
  subst e
  refine b1_ hf hE (by rw[hk];decide) ?_ (by simp[valE,headE,aN_,hk])
  rw[Bool.eq_iff_iff]
  simp[f4_,conF,ta_,rC_,bp_,valE,headE,hk,hr]
  all_goals omega
 ·have e:E=[(some 47,1,1048576),(some 48,1,2),(some 49,1,5),(some 50,1,9999),(some 51,0,255),(some 52,1,64)]:=by rw[← hE0];simp[dQ_,hr]
  subst e
  refine b1_ hf hE (by rw[hk];decide) ?_ (by simp[valE,headE,aN_,hk])
  rw[Bool.eq_iff_iff]
  simp[f4_,conF,ta_,rC_,bp_,valE,headE,hk,hr]
  all_goals omega
 ·have e:E=[(some 47,1,1048576),(some 48,1,2),(some 49,1,5),(some 50,1,9999),(some 51,0,255),(some 52,0,0)]:=by rw[← hE0];simp[dQ_,hr]
  subst e
  refine b1_ hf hE (by rw[hk];decide) ?_ (by simp[valE,headE,aN_,hk])
  rw[Bool.eq_iff_iff]
  simp[f4_,conF,ta_,rC_,bp_,valE,headE,hk,hr]
  all_goals omega
 ·have e:E=[(some 47,1,1048576),(some 48,1,2),(some 49,1,5),(some 50,1,9999),(some 51,0,255),(some 52,0,0)]:=by rw[← hE0];simp[dQ_,hr.1,hr.2.1,hr.2.2.1,hr.2.2.2.1,hr.2.2.2.2]
  subst e
  refine b1_ hf hE (by rw[hk];decide) ?_ (by simp[valE,headE,aN_,hk])
  rw[Bool.eq_iff_iff]
  simp[f4_,conF,ta_,rC_,bp_,valE,headE,hk,hr.1,hr.2.1,hr.2.2.1,hr.2.2.2.1,hr.2.2.2.2]
  all_goals omega
theorem tU_ {f:Nat→Int} (hf:fOk f):(numF f).2=dj_ f∧(dj_ f=true→(numF f).1=aN_ f):=by
 cases hE:ents (f 3) (f 49) with
 | none =>
  have hk:¬ (f 3=1∨f 3=2∨f 3=3∨f 3=4∨f 3=5∨f 3=6∨f 3=7∨f 3=8∨f 3=9∨f 3=10∨f 3=11∨f 3=12∨f 3=13):=by
   rintro (h|h|h|h|h|h|h|h|h|h|h|h|h)<;>rw[h] at hE<;>simp[ents] at hE
  simp only[not_or] at hk
  have hc:conF f=false:=by simp[conF,hk]
  have hq:dj_ f=false:=by simp[dj_,hc]
  rw[hq]
  refine⟨?_,fun h=>by cases h⟩
  unfold numF
  rw[hE]
 | some E =>
  rcases kind_of hE with h|h|h|h|h|h|h|h|h|h|h|h|h
  ·exact EV_ hf h hE
  ·exact EU_ hf h hE
  ·exact ET_ hf h hE
  ·exact ES_ hf h hE
  ·exact ER_ hf h hE
  ·exact EQ_ hf h hE
  ·exact EP_ hf h hE
  ·exact EO_ hf h hE
  ·exact EN_ hf h hE
  ·exact Bv_ hf h hE
  ·exact Bu_ hf h hE
  ·exact Bt_ hf h hE
  ·exact Bs_ hf h hE
theorem uA_ {f:Nat→Int} (hf:fOk f):encR f=Aj_ f:=by
 obtain⟨h1,h2⟩:=tU_ hf
 unfold encR Aj_ encF
 rw[h1]
 split
 ·rename_i h
  rw[h2 h]
 ·rfl
@[simp] def vB (k n:Int) (s:ByteArray) (l:List V):Box:=.cells 166 [.d (.v (.int .i64 k)),.d (.v (.int .i64 n)),.d (.v (.string s)),.d (slV l)]
theorem Bw_ (k n:Int) (s:ByteArray) (l:List V):Fun Tryz.prog 186 [.ptr 1000 0,.ptr 1001 0] [(1000,sB l.length),(1001,vB k n s l)] (.d (.v (.int .i64 0))) [(1000,sB l.length),(1001,vB k n s l)] fun _=>False:=by
 refine ad_ (pn:=an_) ac_ Tryz.func186 rfl fun β0=>?_
 simp only[Tryz.f186]
 refine sG ?_
 refine cT (by simp) ?_
 refine sG ?_
 refine WP.ret (ab_ ?_)
 simp -dsimp
def V.num:V→Int
 | .mk _ n _ _=>n
theorem Bx_ (k n:Int) (s:ByteArray) (l1:List V) (v:V) (l2:List V) (hl:l1.length≤1000000000000) :
  Fun Tryz.prog 186 [.ptr 1000 0,.ptr 1001 0] [(1000,sB l1.length),(1001,vB k n s (l1++v::l2))] (.d (.v (.int .i64 v.num))) [(1000,sB (l1.length+1:Nat)),(1001,vB k n s (l1++v::l2))] fun _=>False:=by
 obtain⟨l,hl'⟩:∃ l,l1++v::l2=l:=⟨_,rfl⟩
 have hv:=b7_ l1 v l2
 rw[hl'] at hv ⊢
 have hlen:l.length=l1.length+(l2.length+1):=by rw[← hl'];simp
 obtain⟨k',n',s',l'⟩:=v
 rw[V.cells] at hv
 have e1:IntKind.i64.wrap ((l1.length:Int)+1)=(l1.length:Int)+1:=IntWalk.i64_in _ (by omega)
 have e2:IntKind.i64.wrap ((l1.length:Int)+1-1)=(l1.length:Int):=by rw[IntWalk.i64_in _ (by omega)];omega
 have e3:IntKind.i64.wrap (l1.length:Int)=(l1.length:Int):=IntWalk.i64_in _ (by omega)
 refine ad_ (pn:=an_) ac_ Tryz.func186 rfl fun β0=>?_
 simp only[Tryz.f186]
 refine sG ?_
 refine cF (by simp;omega) ?_
 refine WP.skip ?_
 simp -dsimp
 repeat(first|apply wG|(apply wR;simp -dsimp[e1,e2,e3,hv])|refine aI ?_)
 refine WP.ret (ab_ ?_)
 simp -dsimp[V.num]
def y8_ (l:List V) (i:Nat):Int:=match l[i]? with
 | some v=>v.num
 | none=>0
theorem pc_ (k n:Int) (s:ByteArray) (l:List V) (j:Nat) (hl:l.length≤1000000000000) :
  Fun Tryz.prog 186 [.ptr 1000 0,.ptr 1001 0] [(1000,sB (min j l.length:Nat)),(1001,vB k n s l)] (.d (.v (.int .i64 (y8_ l j)))) [(1000,sB (min (j+1) l.length:Nat)),(1001,vB k n s l)] fun _=>False:=by
 by_cases h:j<l.length
 ·have e:l=l.take j++l[j]::l.drop (j+1):=by rw[List.getElem_cons_drop,List.take_append_drop]
  have hj:(l.take j).length=j:=by rw[List.length_take];omega
  have hc:=Bx_ k n s (l.take j) l[j] (l.drop (j+1)) (by omega)
  rw[← e,hj] at hc
  have hn:y8_ l j=l[j].num:=by rw[y8_,List.getElem?_eq_getElem h]
  rw[show min j l.length=j by omega,show min (j+1) l.length=j+1 by omega,hn]
  exact hc
 ·have hn:y8_ l j=0:=by rw[y8_,List.getElem?_eq_none (by omega)]
  rw[show min j l.length=l.length by omega,show min (j+1) l.length=l.length by omega,hn]
  exact Bw_ k n s l
def bG_ (l:List Int) (i:Nat):Int:=(l[i]?).getD 0
theorem nthL_eq (l:List V) (i:Nat):y8_ l i=bG_ (l.map V.num) i:=by
 rw[y8_,bG_,List.getElem?_map]
 cases l[i]? <;> rfl
def rdE (l:List Int):List Ent→Nat→(Nat→Int)×Int→(Nat→Int)×Int
 | [],_,p=>p
 | (some o,_,_)::r,j,p=>rdE l r (j+1) (fup p.1 o (bG_ l j),p.2)
 | (none,_,_)::r,j,p=>rdE l r (j+1) (p.1,bG_ l j)
theorem ew_ (l:List Int):∀ (A B:List Ent) (j:Nat) (p:(Nat→Int)×Int),rdE l (A++B) j p=rdE l B (j+A.length) (rdE l A j p)
 | [],B,j,p=>rfl
 | (some o,lo,hi)::A,B,j,p=>by rw[List.cons_append,rdE,ew_ l A B,rdE];congr 1;simp;omega
 | (none,lo,hi)::A,B,j,p=>by rw[List.cons_append,rdE,ew_ l A B,rdE];congr 1;simp;omega
def e4_ (l:List Int):Nat→Int:=(rdE l headE 0 (f0,0)).1
def candE (l:List Int):List Ent:=(ents (e4_ l 3) 0).getD []
def candG (l:List Int):Nat→Int:=fup (rdE l (candE l) 4 (e4_ l,0)).1 54 (if (rdE l (candE l) 4 (e4_ l,0)).2=1 then 1 else 0)
theorem o3_ (l:List Int):∀ (A B:List Ent),A.map (·.1)=B.map (·.1)→∀ (j:Nat) (p:(Nat→Int)×Int),rdE l A j p=rdE l B j p
 | [],[],_,_,_=>rfl
 | [],_::_,h,_,_=>by simp at h
 | _::_,[],h,_,_=>by simp at h
 | (some o,a,b)::A,(o',a',b')::B,h,j,p=>by
  simp only[List.map_cons,List.cons.injEq] at h
  obtain⟨rfl,h⟩:=h
  rw[rdE,rdE,o3_ l A B h]
 | (none,a,b)::A,(o',a',b')::B,h,j,p=>by
  simp only[List.map_cons,List.cons.injEq] at h
  obtain⟨rfl,h⟩:=h
  rw[rdE,rdE,o3_ l A B h]
theorem m4_ (r:Int):(dQ_ r).map (·.1)=[some 47,some 48,some 49,some 50,some 51,some 52]:=by
 unfold dQ_
 by_cases h1:r=1∨r=2<;>by_cases h3:r=3<;>by_cases h4:r=4<;>simp[h1,h3,h4]
theorem wF_ {k r:Int} {E:List Ent} (h:ents k r=some E):∃ E0,ents k 0=some E0∧E0.map (·.1)=E.map (·.1):=by
 by_cases hk:k=10
 ·subst hk
  simp[ents] at h
  subst h
  exact⟨dQ_ 0,by simp[ents],by rw[m4_,m4_]⟩
 ·refine⟨E,?_,rfl⟩
  unfold ents at h ⊢
  rw[if_neg hk] at h ⊢
  exact h
theorem tW_ (P:List Int) (x:Int) (R:List Int):bG_ (P++x::R) P.length=x:=by
 rw[bG_,List.getElem?_append_right (Nat.le_refl _),Nat.sub_self];rfl
theorem kT_ (f:Nat→Int) (s:Int) (R:List Int):∀ (E:List Ent) (P:List Int) (p:(Nat→Int)×Int),rdE (P++E.map (valE f s)++R) E P.length p=(wrL f p.1 E,flL s p.2 E)
 | [],P,p=>rfl
 | (some o,a,b)::E,P,p=>by
  have ih:=kT_ f s R E (P++[valE f s (some o,a,b)]) (fup p.1 o (f o),p.2)
  have hn:bG_ (P++(valE f s (some o,a,b)::E.map (valE f s))++R) P.length=f o:=by rw[List.append_assoc,List.cons_append,tW_];rfl
  rw[List.map_cons,rdE,hn,wrL,flL]
  simp only[List.length_append,List.length_cons,List.length_nil,List.append_assoc,List.cons_append,List.nil_append] at ih ⊢
  exact ih
 | (none,a,b)::E,P,p=>by
  have ih:=kT_ f s R E (P++[valE f s (none,a,b)]) (p.1,s)
  have hn:bG_ (P++(valE f s (none,a,b)::E.map (valE f s))++R) P.length=s:=by rw[List.append_assoc,List.cons_append,tW_];rfl
  rw[List.map_cons,rdE,hn,wrL,flL]
  simp only[List.length_append,List.length_cons,List.length_nil,List.append_assoc,List.cons_append,List.nil_append] at ih ⊢
  exact ih
theorem wX_ {f:Nat→Int} (h:(numF f).2=true) (hf:fOk f):candG (numF f).1=f:=by
 unfold numF at h ⊢
 cases hE:ents (f 3) (f 49) with
 | none=>rw[hE] at h;simp at h
 | some E =>
  rw[hE] at h
  simp only at h ⊢
  split at h
  case isFalse=>simp at h
  case isTrue hc =>
   rw[if_pos hc]
   simp only at h ⊢
   have hA:(headE++E).all cF_=true:=by rw[List.all_append,dc_,b6_ hE];rfl
   have hr:=kL_ hf hA (flL (susp f) 0 (headE++E))
   have he:=(gD_ hr hf).1 h
   have h1:=kT_ f (susp f) (E.map (valE f (susp f))) headE [] (f0,0)
   have h2:=kT_ f (susp f) [] E (headE.map (valE f (susp f))) (wrL f f0 headE,0)
   simp only[List.nil_append,List.length_nil,List.append_nil,← List.map_append,List.length_map,show headE.length=4 from rfl] at h1 h2
   have hg:e4_ ((headE++E).map (valE f (susp f)))=wrL f f0 headE:=by rw[e4_,h1]
   obtain⟨E0,hE0,hfst⟩:=wF_ hE
   have h3:e4_ ((headE++E).map (valE f (susp f))) 3=f 3:=by rw[hg];simp[headE,wrL,wrE,fup]
   have hcE:candE ((headE++E).map (valE f (susp f)))=E0:=by rw[candE,h3,hE0];rfl
   have h4:=o3_ ((headE++E).map (valE f (susp f))) E0 E hfst 4 (wrL f f0 headE,0)
   rw[h2] at h4
   have hfl:flL (susp f) 0 E=flL (susp f) 0 (headE++E):=by rw[flL_append];rfl
   have hcand:candG ((headE++E).map (valE f (susp f)))=fup (wrL f f0 (headE++E)) 54 (if flL (susp f) 0 (headE++E)=1 then 1 else 0):=by
    rw[candG,hcE,hg,h4,wrL_append,hfl]
   rw[hcand]
   funext i
   have hi:=congrFun he i
   by_cases h54:i=54
   ·subst h54
    rw[← hi]
    simp[dV_,fup]
   ·have e1:fup (wrL f f0 (headE++E)) 54 (if flL (susp f) 0 (headE++E)=1 then 1 else 0) i=wrL f f0 (headE++E) i:=if_neg h54
    rw[e1,jQ_]
    split
    ·rfl
    ·rename_i hno
     rw[← hi]
     rw[dV_,fup,if_neg h54]
     have h3':i≠3:=by rintro rfl;exact hno (by simp[hasE,headE])
     split
     ·rename_i hk
      have h49:i≠49:=by
       rintro rfl
       apply hno
       rw[hk] at hE
       simp[ents] at hE
       subst hE
       simp[hasE,dQ_]
      rw[jQ_,if_neg hno]
      simp[rest0,fup,f0,h3',h49]
     ·rw[fup]
      split
      ·rfl
      ·rename_i h49
       rw[jQ_,if_neg hno]
       simp[rest0,fup,f0,h3',h49]
def V.items:V→List V
 | .mk _ _ _ l=>l
def mH_ (bs:List UInt8):List Int:=(pDec bs).1.items.map V.num
def x5_ (bs:List UInt8) (l:List Int):(Nat→Int)×Int:=if encR (candG l)=(bs,0) then (candG l,0) else (f0,120)
def decF (bs:List UInt8):(Nat→Int)×Int:=if (pDec bs).2=0 then x5_ bs (mH_ bs) else (f0,(pDec bs).2)
def m7_ (bs:List UInt8):D:=.tup [fD (decF bs).1,.v (.int .i64 (decF bs).2)]
theorem pDec_facts {bs:List UInt8} (h:bs.length≤1000000000000):((pDec bs).2=0∧(pDec bs).1.rng=true∧(pDec bs).1.enc=bs∧(pDec bs).1.ok=true∧(pDec bs).1.dep≤16)∨pDec bs=(.mk 0 0 ⟨#[]⟩ [],20):=by
 cases hv:pVal 16 bs with
 | none=>right;rw[pDec,hv]
 | some x =>
  obtain⟨v,r⟩:=x
  cases r with
  | cons c r=>right;rw[pDec,hv]
  | nil =>
   obtain⟨w1,w2,w3,w4⟩:=pt_ 16 bs v [] h hv
   left
   rw[pDec,hv]
   exact⟨rfl,w4,by rw[w1,List.append_nil],w2,w3⟩
theorem hQ_:∀ {l:List V},bm_ l=true→∀ x∈l.map V.num,isI x
 | [],_,x,hx=>by simp at hx
 | .mk k n s l'::l,h,x,hx=>by
  simp only[bm_,Bool.and_eq_true] at h
  rw[List.map_cons,List.mem_cons] at hx
  rcases hx with rfl|hx
  ·exact (cn_ h.1).1
  ·exact hQ_ h.2 x hx
theorem tV_ {l:List Int} (h:∀ x∈l,isI x) (i:Nat):isI (bG_ l i):=by
 rw[bG_]
 cases hi:l[i]? with
 | none=>exact t9_
 | some x=>exact h x (List.mem_of_getElem? hi)
theorem qm_ {l:List Int} (h:∀ x∈l,isI x):∀ (A:List Ent) (j:Nat) (p:(Nat→Int)×Int),(∀ i,isI (p.1 i))→isI p.2→(∀ i,isI ((rdE l A j p).1 i))∧isI (rdE l A j p).2
 | [],_,_,h1,h2=>⟨h1,h2⟩
 | (some o,_,_)::A,j,p,h1,h2=>qm_ h A (j+1) _ (d7_ h1 (tV_ h j)) h2
 | (none,_,_)::A,j,p,h1,h2=>qm_ h A (j+1) _ h1 (tV_ h j)
theorem kS_ {l:List Int}:∀ (A:List Ent) (j:Nat) (p:(Nat→Int)×Int),A.all cF_=true→(∀ i,57≤i→p.1 i=0)→∀ i,57≤i→(rdE l A j p).1 i=0
 | [],_,_,_,h1=>h1
 | (some o,lo,hi)::A,j,p,hA,h1=>by
  rw[List.all_cons,Bool.and_eq_true] at hA
  refine kS_ A (j+1) _ hA.2 fun i hi=>?_
  have:o<57∧o≠54:=by simpa [cF_] using hA.1
  simp only[fup]
  rw[if_neg (by omega)]
  exact h1 i hi
 | (none,lo,hi)::A,j,p,hA,h1=>by
  rw[List.all_cons,Bool.and_eq_true] at hA
  exact kS_ A (j+1) _ hA.2 h1
theorem wY_ (l:List Int):(candE l).all cF_=true:=by
 rw[candE]
 cases h:ents (e4_ l 3) 0 with
 | none=>rfl
 | some E=>exact b6_ h
theorem lF_ {l:List Int} (h:∀ x∈l,isI x):fOk (candG l):=by
 have h1:=qm_ h headE 0 (f0,0) (fun _=>t9_) t9_
 have h2:=qm_ h (candE l) 4 (e4_ l,0) h1.1 t9_
 refine⟨d7_ h2.1 (by split<;>simp[isI]),?_,fun i hi=>?_⟩
 ·unfold candG fup;simp only[if_true];split<;>simp
 ·rw[candG,fup,if_neg (by omega)]
  exact kS_ (candE l) 4 _ (wY_ l) (kS_ headE 0 _ dc_ (fun _ _=>rfl)) i hi
theorem r1_ {e:Ent} (h:e∈headE):∃ o lo hi,e=(some o,lo,hi)∧o<57∧o≠54:=by
 simp only[headE,List.mem_cons,List.not_mem_nil,or_false] at h
 rcases h with rfl|rfl|rfl|rfl<;>exact⟨_,_,_,rfl,by decide,by decide⟩
def sD1 (bs:List UInt8) (k n:Int) (s:ByteArray) (l:List V) (A1:List Ent):St :=
 mkS 74 [(0,.d (slB bs)),(2,.ptr 2 0),(3,.d (.v (.int .i64 0))),(4,.ptr 4 0),(5,.ptr 5 0),(6,.fn (.func 186) [] [.ptr 5 0,.ptr 4 0]),(26,.row 26),(27,.d (.v (.int .i64 4))),(28,.d (.v (.int .i64 A1.length)))]
  [(2,fB (rdE (l.map V.num) A1 0 (f0,0)).1),(4,vB k n s l),(5,sB (min A1.length l.length:Nat)),(26,.row 238 3 4 (bH_ 2 2 headE))]
def sD2 (bs:List UInt8) (k n:Int) (s:ByteArray) (l:List V) (E A1:List Ent):St :=
 mkS 74 [(0,.d (slB bs)),(2,.ptr 2 0),(3,.d (.v (.int .i64 0))),(4,.ptr 4 0),(5,.ptr 5 0),(6,.fn (.func 186) [] [.ptr 5 0,.ptr 4 0]),(9,.ptr 9 0),(43,.row 701),(44,.d (.v (.int .i64 E.length))),(45,.d (.v (.int .i64 A1.length)))]
  [(2,fB (rdE (l.map V.num) A1 4 (e4_ (l.map V.num),0)).1),(4,vB k n s l),(5,sB (min (4+A1.length) l.length:Nat)),(9,sB (rdE (l.map V.num) A1 4 (e4_ (l.map V.num),0)).2),(701,.row 238 3 E.length (bH_ 2 9 E))]
theorem i7_ {v:V} (h:v.ok=true):v.items.length≤v.enc.length:=by
 obtain⟨k,n,s,l⟩:=v
 rw[V.enc]
 simp only[V.items]
 simp[V.ok] at h
 have:=gJ_ l
 by_cases h1:k=1
 ·simp[h1] at h;simp[h.2]
 ·by_cases h2:k=2
  ·simp[h2] at h;simp[h.2]
  ·simp[h1,h2];omega
theorem rdE_snoc (l:List Int) (A:List Ent) (o:Nat) (lo hi:Int) (j:Nat) (p:(Nat→Int)×Int):rdE l (A++[(some o,lo,hi)]) j p=(fup (rdE l A j p).1 o (bG_ l (j+A.length)),(rdE l A j p).2):=by rw[ew_];rfl
theorem rdE_snocN (l:List Int) (A:List Ent) (lo hi:Int) (j:Nat) (p:(Nat→Int)×Int):rdE l (A++[(none,lo,hi)]) j p=((rdE l A j p).1,bG_ l (j+A.length)):=by rw[ew_];rfl
theorem A3_ (f:Nat→Int) (s:Int) {E:List Ent} (hE:ents (f 3) (f 49)=some E∧clos (f 3)=none∨ents (f 3) (f 49)=none∧E=[]) :
  ∃ fv:Value,fv.oneCell'=true∧Fun Tryz.prog 161 [.ptr 1000 0,.ptr 1001 0] [(1000,fB f),(1001,sB s)] (.tup [.agg [.row 0,.d (.v fv)],.d .any]) [(1000,fB f),(1001,sB s),(0,.row 238 3 E.length (bH_ 1000 1001 E))] fun _=>False:=by
 rcases hE with⟨hE,hc⟩|⟨hE,rfl⟩
 ·exact⟨_,rfl,(tL_ f s hE hc).res (Leq.tup ⟨Leq.refl _,Leq.any _,trivial⟩) (by simp[oH_])⟩
 ·refine⟨.nilFunc,rfl,fun w I β vs hm hd=>?_⟩
  refine Calls.mono (tK_ f s hE w I β vs hm hd) fun e w' he=>?_
  cases e with
  | returned v =>
   obtain⟨I',β',h1,h2,h3⟩:=he
   refine⟨I',upd β' 0 (.slice none 0 0),(h1.addNil (k:=0) rfl 238 3).sub (fun k b h=>h),?_,fun k hk=>by rw[upd_other _ _ (by omega)];exact h3 k hk⟩
   obtain⟨vs1,rfl,v1,vs2,rfl,⟨us,rfl,u1,us2,rfl,h4,u3,us3,rfl,h5,h6⟩,v3,vs4,rfl,h7,h8⟩:=h2
   refine⟨_,rfl,_,_,rfl,⟨_,rfl,_,_,rfl,?_,_,_,rfl,h5,h6⟩,_,_,rfl,trivial,h8⟩
   rw[DenA_v] at h4
   subst h4
   exact⟨by rw[upd_same],.inl ⟨_,_,_,rfl⟩⟩
  | panicked ch=>exact he
  | outgrown=>exact he
set_option maxHeartbeats 4000000 in
theorem c4_ (bs:List UInt8) (hbs:bs.length≤1000000000):Fn0 Tryz.prog 118 [slB bs] (m7_ bs):=by
 have h18:=B9_ bs (by omega)
 rw[m8_] at h18
 have hpf:=pDec_facts (bs:=bs) (by omega)
 unfold m7_ decF mH_
 generalize pDec bs=R at *
 obtain⟨⟨k,n,s,l⟩,e⟩:=R
 rcases hpf with⟨h0,hrng,henc,hok,_⟩|hbad
 ·simp only at h0 hrng henc hok
  subst h0
  have hL:=(cn_ hrng).2
  have hin:=hQ_ hL
  have hlen:=i7_ hok
  rw[henc] at hlen
  simp only[V.items] at hlen
  have hg:=lF_ hin
  have h17:=iY_ _ hg
  rw[Ce_] at h17
  simp only[if_true,V.items]
  refine ad_ (pn:=an_) ac_ Tryz.func118 rfl fun β0=>?_
  simp only[Tryz.f118]
  repeat(first|apply wG|(apply wR;simp -dsimp[az_])|refine aI ?_)
  refine aa_ hi_ h18 rfl rfl (by simp) ?_
  simp -dsimp[V.d,V.cells]
  refine sG ?_
  refine cF (by simp) ?_
  refine WP.skip ?_
  simp -dsimp
  refine sG ?_
  refine vcStop.call ci_ (iR_ f0) (rl [(1000,2),(0,26)]) rfl rfl (by simp[BoxLeq]) aGq (fun _ h=>h.elim) (fun ⟨_,h⟩=>h.elim) (fun ⟨_,h⟩=>h.elim) (by simp[BoxLeq]) ?_
  simp -dsimp
  refine sG ?_
  refine ai_ (fun m S=>∃ A1 A2,headE=A1++A2∧m=A2.length∧S=sD1 bs k n s l A1) 4 (S0:=sD1 bs k n s l [])
   (af_ [] (by simp[sD1]) (by simp[sD1,rdE])) ⟨[],headE,rfl,rfl,rfl⟩ ?_
  rintro _ _ ⟨A1,A2,hA12,rfl,rfl⟩
  have hll:4=A1.length+A2.length:=by rw[← List.length_append,← hA12];rfl
  simp -dsimp[sD1]
  refine sG ?_
  cases A2 with
  | cons e A2 =>
   have hl1:A1.length<4:=by simp at hll;omega
   have e1:IntKind.i64.wrap ((A1.length:Int)+1)=(A1.length:Int)+1:=IntWalk.i64_in _ (by omega)
   obtain⟨o,lo,hi,rfl,ho,ho'⟩:=r1_ (e:=e) (by rw[hA12];simp)
   have h1:=lx_ 2 2 A1 (some o,lo,hi) A2
   rw[← hA12] at h1
   simp only[locA] at h1
   refine cT (by simp;omega) ?_
   refine WP.skip ?_
   simp -dsimp
   refine WP.seq (WP.block ?_)
   repeat(first|apply wG|(apply wR;simp -dsimp[h1])|refine aI ?_)
   refine vcStop.call ei_ (pc_ k n s l A1.length (by omega)) (rl [(1000,5),(1001,4)]) rfl rfl (by simp[BoxLeq]) aGq (fun _ h=>h.elim) (fun ⟨_,h⟩=>h.elim) (fun ⟨_,h⟩=>h.elim) (by simp[BoxLeq]) ?_
   simp -dsimp
   repeat(first|apply wG|(apply wR;simp -dsimp[ho,ho'])|refine aI ?_)
   refine loopW.next (sD1 bs k n s l (A1++[(some o,lo,hi)])) (af_ [8] (by simp[sD1,e1]) (by simp[sD1,rdE_snoc,nthL_eq])) A2.length (by simp) ⟨A1++[(some o,lo,hi)],A2,by simp[hA12],rfl,rfl⟩
  | nil =>
   simp only[List.append_nil] at hA12
   subst hA12
   refine cF (by simp[headE]) ?_
   refine WP.exit ?_
   simp -dsimp
   have hG0:(rdE (l.map V.num) headE 0 (f0,0)).1=e4_ (l.map V.num):=rfl
   rw[hG0]
   have hl0:∀ m:Nat,min 4 l.length=min (4+0) l.length:=fun _=>rfl
   generalize hGd:e4_ (l.map V.num)=G at *
   have hG49:G 49=0:=by rw[← hGd];rfl
   refine sG ?_
   have key:(∃ E,(ents (G 3) (G 49)=some E∧clos (G 3)=none∨ents (G 3) (G 49)=none∧E=[])∧candE (l.map V.num)=E∧E.length≤8∧E.all cF_=true) ∨
     ∃ E T q off,ents (G 3) (G 49)=some E∧clos (G 3)=some (T,q,off)∧candE (l.map V.num)=E∧E.length≤8∧E.all cF_=true:=by
    rw[candE,hGd,hG49]
    cases hE:ents (G 3) 0 with
    | none=>exact .inl ⟨[],.inr ⟨rfl,rfl⟩,rfl,by simp,rfl⟩
    | some E =>
     cases hc:clos (G 3) with
     | none=>exact .inl ⟨E,.inl ⟨rfl,rfl⟩,rfl,du_ hE,b6_ hE⟩
     | some p =>
      obtain⟨T,q,off⟩:=p
      exact .inr ⟨E,T,q,off,rfl,rfl,rfl,du_ hE,b6_ hE⟩
   rcases key with⟨E,hE,hcE,hl8,hEok⟩|⟨E,T,q,off,hE,hc,hcE,hl8,hEok⟩
   obtain⟨fv,hfv,h38⟩:=A3_ G 0 hE
   refine vcStop.call bD_ (h38) (rl [(1000,2),(1001,9),(0,701)]) rfl rfl (by simp[hfv,BoxLeq]) (ag_ (by simp[hfv,BoxLeq]) rfl (by first|rfl|(simp[hfv,BoxLeq];done)) (by simp[hfv,BoxLeq]) (by simp[hfv,BoxLeq])) (fun _ h=>h.elim) (fun ⟨_,h⟩=>h.elim) (fun ⟨_,h⟩=>h.elim) (by simp[hfv,BoxLeq]) ?_
   simp -dsimp
   repeat(first|apply wG|(apply wR;simp -dsimp[hfv])|refine aI ?_)
   clear hE h38
   rotate_left
   have h38:=tM_ G 0 hE hc
   refine vcStop.call bD_ (h38) (rl [(1000,2),(1001,9),(0,701),(1,702)]) rfl rfl (by simp[BoxLeq]) aGq (fun _ h=>h.elim) (fun ⟨_,h⟩=>h.elim) (fun ⟨_,h⟩=>h.elim) (by simp[BoxLeq]) ?_
   simp -dsimp
   refine sG ?_
   clear hc h38 hE
   all_goals
    have hcand:candG (l.map V.num)=fup (rdE (l.map V.num) E 4 (G,0)).1 54 (if (rdE (l.map V.num) E 4 (G,0)).2=1 then 1 else 0):=by rw[candG,hcE,hGd]
    refine ai_ (fun m S=>∃ A1 A2,E=A1++A2∧m=A2.length∧S=sD2 bs k n s l E A1) E.length (S0:=sD2 bs k n s l E [])
     (af_ [10,26,702] (by simp[sD2]) (by simp[sD2,rdE,hGd,bH_])) ⟨[],E,rfl,rfl,rfl⟩ ?_
    rintro _ _ ⟨A1,A2,hA12,rfl,rfl⟩
    have hll:E.length=A1.length+A2.length:=by rw[← List.length_append,← hA12]
    simp -dsimp[sD2,hGd]
    refine sG ?_
    cases A2 with
    | cons e A2 =>
     have e1:IntKind.i64.wrap ((A1.length:Int)+1)=(A1.length:Int)+1:=IntWalk.i64_in _ (by simp at hll;omega)
     rw[List.length_cons] at hll
     have e5:4+(A1.length+1)=4+A1.length+1:=rfl
     have h1:=lx_ 2 9 A1 e A2
     rw[← hA12] at h1
     have he:cF_ e=true:=by rw[hA12,List.all_append,List.all_cons] at hEok;simp only[Bool.and_eq_true] at hEok;exact hEok.2.1
     refine cT (by simp at hll ⊢;omega) ?_
     refine WP.skip ?_
     simp -dsimp
     refine WP.seq (WP.block ?_)
     obtain⟨o,lo,hi⟩:=e
     cases o with
     | some o =>
      have ho:o<57∧o≠54:=by simpa [cF_] using he
      simp only[locA] at h1
      repeat(first|apply wG|(apply wR;simp -dsimp[h1])|refine aI ?_)
      refine vcStop.call ei_ (pc_ k n s l (4+A1.length) (by omega)) (rl [(1000,5),(1001,4)]) rfl rfl (by simp[BoxLeq]) aGq (fun _ h=>h.elim) (fun ⟨_,h⟩=>h.elim) (fun ⟨_,h⟩=>h.elim) (by simp[BoxLeq]) ?_
      simp -dsimp
      repeat(first|apply wG|(apply wR;simp -dsimp[ho.1,ho.2])|refine aI ?_)
      refine loopW.next (sD2 bs k n s l E (A1++[(some o,lo,hi)])) (af_ [13] (by simp[sD2,e1]) (by simp[sD2,rdE_snoc,nthL_eq,hGd,e5])) A2.length (by simp) ⟨A1++[(some o,lo,hi)],A2,by simp[hA12],rfl,rfl⟩
     | none =>
      simp only[locA] at h1
      repeat(first|apply wG|(apply wR;simp -dsimp[h1])|refine aI ?_)
      refine vcStop.call ei_ (pc_ k n s l (4+A1.length) (by omega)) (rl [(1000,5),(1001,4)]) rfl rfl (by simp[BoxLeq]) aGq (fun _ h=>h.elim) (fun ⟨_,h⟩=>h.elim) (fun ⟨_,h⟩=>h.elim) (by simp[BoxLeq]) ?_
      simp -dsimp
      refine sG ?_
      refine loopW.next (sD2 bs k n s l E (A1++[(none,lo,hi)])) (af_ [13] (by simp[sD2,e1]) (by simp[sD2,rdE_snocN,nthL_eq,hGd,e5])) A2.length (by simp) ⟨A1++[(none,lo,hi)],A2,by simp[hA12],rfl,rfl⟩
    | nil =>
     simp only[List.append_nil] at hA12
     subst hA12
     have hdl:∀ g b e,g=candG (l.map V.num)→encR g=(b,e)→x5_ bs (l.map V.num)=if e=0∧bs=b then (g,0) else (f0,120):=fun g b e hg he=>by
      rw[x5_,← hg,he]
      by_cases h1:e=0∧bs=b
      ·rw[if_pos h1,if_pos (by rw[h1.1,h1.2])]
      ·rw[if_neg h1,if_neg (fun h2=>h1 ⟨(Prod.mk.inj h2).2,((Prod.mk.inj h2).1).symm⟩)]
     have hd:=hdl _ (encR (candG (l.map V.num))).1 (encR (candG (l.map V.num))).2 rfl rfl
     clear hdl
     rw[hd]
     rw[hcand] at h17 hg ⊢
     clear hd hcand
     generalize rdE (l.map V.num) E 4 (G,0)=Q at *
     generalize hg2:fup Q.1 54 (if Q.2=1 then 1 else 0)=g at *
     generalize encR g=R at *
     obtain⟨c,e⟩:=R
     simp only at h17 ⊢
     refine cF (by simp) ?_
     refine WP.exit ?_
     simp -dsimp
     repeat(first|apply wG|(apply wR;simp -dsimp[hg2])|refine aI ?_)
     refine aa_ fc_ h17 rfl rfl (by simp[fD]) ?_
     simp -dsimp
     refine sG ?_
     refine ae_ fa_ (fun _=>dy_ bs c) rfl (fun _=>rfl) (fun _=>by simp) ?_
     simp -dsimp
     refine WP.cond (b := !decide (e=0∧bs=c)) (by simp) (fun hb=>?_) (fun hb=>?_)
     ·have hb:¬ (e=0∧bs=c):=by simpa only[Bool.not_eq_true',decide_eq_false_iff_not] using hb
      rw[if_neg hb]
      repeat(first|apply wG|(apply wR;simp -dsimp[az_])|refine aI ?_)
      refine WP.ret (ab_ ?_)
      simp -dsimp[fD]
     ·have hb:e=0∧bs=c:=by simpa using hb
      rw[if_pos hb]
      refine WP.skip ?_
      simp -dsimp
      refine sG ?_
      refine WP.ret (ab_ ?_)
      simp -dsimp[fD]
 ·cases hbad
  simp only[V.items,show ¬ (20:Int)=0 by decide,if_false]
  refine ad_ (pn:=an_) ac_ Tryz.func118 rfl fun β0=>?_
  simp only[Tryz.f118]
  repeat(first|apply wG|(apply wR;simp -dsimp[az_])|refine aI ?_)
  refine aa_ hi_ h18 rfl rfl (by simp) ?_
  simp -dsimp[V.d,V.cells]
  refine sG ?_
  refine cT (by simp) ?_
  refine sG ?_
  refine WP.ret (ab_ ?_)
  simp -dsimp[fD]
structure Cmp {α:Type} (c:α→α→Int):Prop where
 val:∀ a b,c a b=-1∨c a b=0∨c a b=1
 anti:∀ a b,c b a = - c a b
 trans:∀ a b d,c a b≤0→c b d≤0→c a d≤0
 same:∀ a b d,c a b=0→c a d=c b d
theorem Cmp.on {α β:Type} {c:β→β→Int} (h:Cmp c) (p:α→β):Cmp fun a b=>c (p a) (p b) :=
 ⟨fun _ _=>h.val _ _,fun _ _=>h.anti _ _,fun _ _ _=>h.trans _ _ _,fun _ _ _=>h.same _ _ _⟩
end Go.Proofs.YtfgcgagcpnbgmaaGreatDoor
