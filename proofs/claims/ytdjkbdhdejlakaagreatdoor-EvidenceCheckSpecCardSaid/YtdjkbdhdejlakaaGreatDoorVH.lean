/-
  Joined texts.
-/
import Derived.Test.YtdjkbdhdejlakaaGreatDoorVG
set_option maxRecDepth 10000
set_option linter.unusedVariables false
set_option linter.unusedSimpArgs false
set_option linter.unusedSectionVars false
namespace Go.Proofs.YtdjkbdhdejlakaaGreatDoor
open Go.Xe Go.RowKit
def hasE (A:List Ent) (i:Nat):Bool:=A.any fun e=>decide (e.1=some i)
theorem ju_ (f:Nat→Int):∀ (A:List Ent) (g:Nat→Int) (i:Nat),wrL f g A i=if hasE A i=true then f i else g i
 | [],g,i=>by simp[wrL,hasE]
 | (some o,lo,hi)::A,g,i=>by
  rw[wrL,ju_ f A]
  have:hasE ((some o,lo,hi)::A) i=(decide (o=i)||hasE A i):=by simp[hasE]
  rw[this]
  by_cases h1:hasE A i=true
  ·simp[h1]
  ·simp only[h1,Bool.or_false,decide_eq_true_eq]
   simp only[wrE,fup]
   by_cases h2:o=i
   ·subst h2;simp
   ·rw[if_neg h2,if_neg (by simp),if_neg (Ne.symm h2)]
 | (none,lo,hi)::A,g,i=>by
  rw[wrL,ju_ f A]
  have:hasE ((none,lo,hi)::A) i=hasE A i:=by simp[hasE]
  rw[this]
  rfl
theorem tE_ (s:Int):∀ (A:List Ent) (x:Int),flL s x A=if (A.any fun e=>e.1.isNone)=true then s else x
 | [],x=>by simp[flL]
 | (some o,lo,hi)::A,x=>by
  have e:(List.any ((some o,lo,hi)::A) fun e=>e.1.isNone)=A.any fun e=>e.1.isNone:=rfl
  rw[flL,tE_ s A,e]
  rfl
 | (none,lo,hi)::A,x=>by rw[flL,tE_ s A];simp[flE]
theorem tw_:∀ {A:List Ent} {i:Nat},A.all ez_=true→hasE A i=true→i<57
 | [],i,_,h=>by simp[hasE] at h
 | (o,lo,hi)::A,i,hA,h=>by
  rw[List.all_cons,Bool.and_eq_true] at hA
  simp only[hasE,List.any_cons,Bool.or_eq_true,decide_eq_true_eq] at h
  rcases h with h|h
  ·subst h
   have:=hA.1
   simp only[ez_,Bool.and_eq_true,decide_eq_true_eq] at this
   exact this.1
  ·exact tw_ hA.2 h
def inP (p:Nat×Nat) (i:Nat):Bool:=decide (p.1≤i)&&decide (i<p.1+p.2)
def s3_ (A:List Ent) (p:Nat×Nat) (k:Int):Bool :=
 ((List.range 57).all fun i=>decide (i=54)||(hasE A i == (decide (i<4)||inP p i)))&&decide (p.1+p.2≤57)&&((A.any fun e=>e.1.isNone) == inP p 54)&&(inP p 49 == decide (k=10))
theorem sC_ {f:Nat→Int} (hf:fOk f) {A:List Ent} (hA:A.all ez_=true) (hp:s3_ A (partF (f 3)) (f 3)=true):dR_ f (wrL f (rest0 f) A) (flL (susp f) 0 A)=bc_ f:=by
 unfold bc_
 generalize partF (f 3)=p at *
 unfold s3_ at hp
 simp only[Bool.and_eq_true,List.all_eq_true,decide_eq_true_eq,beq_iff_eq] at hp
 obtain⟨⟨⟨h1,h2⟩,h3⟩,h4⟩:=hp
 funext i
 have hin:(p.1≤i∧i<p.1+p.2)↔inP p i=true:=by simp[inP]
 by_cases e54:i=54
 ·subst e54
  have hb:cW_ f 54=0:=rfl
  simp only[dR_,fup,fcp,if_true,tE_,h3,hin]
  cases inP p 54 with
  | false=>simp[hb]
  | true =>
   simp only[if_true,susp]
   rcases hf.2.1 with h|h<;>rw[h]<;>rfl
 ·have hG:=ju_ f A (rest0 f) i
  have hr:dR_ f (wrL f (rest0 f) A) (flL (susp f) 0 A) i=if f 3=10 then wrL f (rest0 f) A i else if i=49 then 0 else wrL f (rest0 f) A i:=by
   simp only[dR_]
   rw[fup,if_neg e54]
   split
   ·rfl
   ·rw[fup]
  rw[hr,hG]
  by_cases h57:i<57
  ·have hi:=h1 i (by simpa using h57)
   simp only[e54,decide_false,Bool.false_or,beq_iff_eq] at hi
   rw[hi]
   simp only[fcp,hin]
   by_cases e49:i=49
   ·subst e49
    have hb:cW_ f 49=0:=rfl
    rw[h4,hb]
    by_cases hk:f 3=10
    ·simp[hk]
    ·simp[hk]
   ·have hr0:rest0 f i=if i=3 then f 3 else 0:=by simp only[rest0,fup,f0,e49,if_false]
    rw[hr0]
    simp only[e49,if_false]
    have hb:cW_ f i=if i<4 then f i else 0:=by
     simp only[cW_,fup,f0]
     by_cases h:i<4
     ·have:i=0∨i=1∨i=2∨i=3:=by omega
      rcases this with rfl|rfl|rfl|rfl<;>simp
     ·rw[if_neg h,if_neg (by omega),if_neg (by omega),if_neg (by omega),if_neg (by omega)]
    rw[hb]
    cases hq:inP p i with
    | true=>simp
    | false =>
     by_cases h:i<4
     ·simp[h]
     ·have:i≠3:=by omega
      simp[h,this]
  ·have h5:hasE A i=false:=by
    cases hh:hasE A i with
    | false=>rfl
    | true=>exact absurd (tw_ hA hh) h57
   rw[h5]
   have h6:¬ (p.1≤i∧i<p.1+p.2):=by omega
   have a0:i≠0:=by omega
   have a1:i≠1:=by omega
   have a2:i≠2:=by omega
   have a3:i≠3:=by omega
   have a49:i≠49:=by omega
   simp[fcp,h6,cW_,rest0,fup,f0,a0,a1,a2,a3,a49]
theorem vY_ (f g:Nat→Int):eqF f g=eqF g f:=by
 unfold eqF
 congr 1
 funext i
 rw[Bool.eq_iff_iff]
 simp only[decide_eq_true_eq]
 exact eq_comm
theorem bG_ {f:Nat→Int} (hf:fOk f) {E:List Ent} (hE:ents (f 3) (f 49)=some E) (hp:s3_ (headE++E) (partF (f 3)) (f 3)=true)
  (hc:(fW_ f&&(headE++E).all (inE f (susp f)))=(inB (f 0) 0 31&&inB (f 1) 1 1048576&&inB (f 2) 0 1099511627776&&conF f)) (hl:(headE++E).map (valE f (susp f))=aI_ f) :
  (numF f).2=da_ f∧(da_ f=true→(numF f).1=aI_ f):=by
 have hA:(headE++E).all ez_=true:=by rw[List.all_append,eh_,el_ hE];rfl
 have hr:=sC_ hf hA hp
 unfold numF
 rw[hE]
 simp only
 rw[hr,hl,hc]
 unfold da_
 rw[vY_ f (bc_ f)]
 cases (inB (f 0) 0 31&&inB (f 1) 1 1048576&&inB (f 2) 0 1099511627776&&conF f)<;>simp
theorem ba_ (f:Nat→Int) (s:Int) (e:Ent):inE f s e=true↔e.2.1≤valE f s e∧valE f s e≤e.2.2:=by
 rw[inE,Bool.and_eq_true,decide_eq_true_eq,decide_eq_true_eq]
theorem DO_ {f:Nat→Int} (hf:fOk f) (hk:f 3=1) {E:List Ent} (hE:ents (f 3) (f 49)=some E):(numF f).2=da_ f∧(da_ f=true→(numF f).1=aI_ f):=by
 have hE0:=hE
 rw[hk] at hE0
 simp[ents] at hE0
 subst hE0
 refine bG_ hf hE (by rw[hk];decide) ?_ (by simp[valE,headE,aI_,hk])
 rw[Bool.eq_iff_iff]
 simp[fW_,conF,ba_,valE,headE,hk]
 all_goals omega
theorem DN_ {f:Nat→Int} (hf:fOk f) (hk:f 3=2) {E:List Ent} (hE:ents (f 3) (f 49)=some E):(numF f).2=da_ f∧(da_ f=true→(numF f).1=aI_ f):=by
 have hE0:=hE
 rw[hk] at hE0
 simp[ents] at hE0
 subst hE0
 refine bG_ hf hE (by rw[hk];decide) ?_ (by simp[valE,headE,aI_,hk])
 rw[Bool.eq_iff_iff]
 simp[fW_,conF,ba_,valE,headE,hk]
 all_goals omega
theorem DM_ {f:Nat→Int} (hf:fOk f) (hk:f 3=3) {E:List Ent} (hE:ents (f 3) (f 49)=some E):(numF f).2=da_ f∧(da_ f=true→(numF f).1=aI_ f):=by
 have hE0:=hE
 rw[hk] at hE0
 simp[ents] at hE0
 subst hE0
 refine bG_ hf hE (by rw[hk];decide) ?_ (by simp[valE,headE,aI_,hk])
 rw[Bool.eq_iff_iff]
 simp[fW_,conF,ba_,valE,headE,hk]
 all_goals omega
theorem DL_ {f:Nat→Int} (hf:fOk f) (hk:f 3=4) {E:List Ent} (hE:ents (f 3) (f 49)=some E):(numF f).2=da_ f∧(da_ f=true→(numF f).1=aI_ f):=by
 have hE0:=hE
 rw[hk] at hE0
 simp[ents] at hE0
 subst hE0
 refine bG_ hf hE (by rw[hk];decide) ?_ (by simp[valE,headE,aI_,hk])
 rw[Bool.eq_iff_iff]
 simp[fW_,conF,ba_,valE,headE,hk]
 all_goals omega
theorem DK_ {f:Nat→Int} (hf:fOk f) (hk:f 3=5) {E:List Ent} (hE:ents (f 3) (f 49)=some E):(numF f).2=da_ f∧(da_ f=true→(numF f).1=aI_ f):=by
 have hE0:=hE
 rw[hk] at hE0
 simp[ents] at hE0
 subst hE0
 refine bG_ hf hE (by rw[hk];decide) ?_ (by simp[valE,headE,aI_,hk])
 rw[Bool.eq_iff_iff]
 simp[fW_,conF,ba_,valE,headE,hk]
 all_goals omega
theorem DJ_ {f:Nat→Int} (hf:fOk f) (hk:f 3=6) {E:List Ent} (hE:ents (f 3) (f 49)=some E):(numF f).2=da_ f∧(da_ f=true→(numF f).1=aI_ f):=by
 have hE0:=hE
 rw[hk] at hE0
 simp[ents] at hE0
 subst hE0
 refine bG_ hf hE (by rw[hk];decide) ?_ (by simp[valE,headE,aI_,hk])
 rw[Bool.eq_iff_iff]
 simp[fW_,conF,ba_,valE,headE,hk]
 all_goals omega
theorem DI_ {f:Nat→Int} (hf:fOk f) (hk:f 3=7) {E:List Ent} (hE:ents (f 3) (f 49)=some E):(numF f).2=da_ f∧(da_ f=true→(numF f).1=aI_ f):=by
 have hE0:=hE
 rw[hk] at hE0
 simp[ents] at hE0
 subst hE0
 refine bG_ hf hE (by rw[hk];decide) ?_ (by simp[valE,headE,aI_,hk])
 rw[Bool.eq_iff_iff]
 simp[fW_,conF,ba_,valE,headE,hk]
 all_goals omega
theorem DH_ {f:Nat→Int} (hf:fOk f) (hk:f 3=8) {E:List Ent} (hE:ents (f 3) (f 49)=some E):(numF f).2=da_ f∧(da_ f=true→(numF f).1=aI_ f):=by
 have hE0:=hE
 rw[hk] at hE0
 simp[ents] at hE0
 subst hE0
 refine bG_ hf hE (by rw[hk];decide) ?_ (by simp[valE,headE,aI_,hk])
 rw[Bool.eq_iff_iff]
 simp[fW_,conF,ba_,valE,headE,hk]
 all_goals omega
theorem DG_ {f:Nat→Int} (hf:fOk f) (hk:f 3=9) {E:List Ent} (hE:ents (f 3) (f 49)=some E):(numF f).2=da_ f∧(da_ f=true→(numF f).1=aI_ f):=by
 have hE0:=hE
 rw[hk] at hE0
 simp[ents] at hE0
 subst hE0
 refine bG_ hf hE (by rw[hk];decide) ?_ (by simp[valE,headE,aI_,hk])
 rw[Bool.eq_iff_iff]
 simp[fW_,conF,ba_,valE,headE,hk]
 all_goals omega
theorem z2_ {f:Nat→Int} (hf:fOk f) (hk:f 3=11) {E:List Ent} (hE:ents (f 3) (f 49)=some E):(numF f).2=da_ f∧(da_ f=true→(numF f).1=aI_ f):=by
 have hE0:=hE
 rw[hk] at hE0
 simp[ents] at hE0
 subst hE0
 refine bG_ hf hE (by rw[hk];decide) ?_ (by simp[valE,headE,aI_,hk,susp])
 rw[Bool.eq_iff_iff]
 have hs:0≤susp f∧susp f≤1:=by unfold susp;split<;>omega
 simp[fW_,conF,ba_,valE,headE,hk,hs]
 all_goals omega
theorem z1_ {f:Nat→Int} (hf:fOk f) (hk:f 3=12) {E:List Ent} (hE:ents (f 3) (f 49)=some E):(numF f).2=da_ f∧(da_ f=true→(numF f).1=aI_ f):=by
 have hE0:=hE
 rw[hk] at hE0
 simp[ents] at hE0
 subst hE0
 refine bG_ hf hE (by rw[hk];decide) ?_ (by simp[valE,headE,aI_,hk])
 rw[Bool.eq_iff_iff]
 simp[fW_,conF,ba_,valE,headE,hk]
 all_goals omega
theorem z0_ {f:Nat→Int} (hf:fOk f) (hk:f 3=13) {E:List Ent} (hE:ents (f 3) (f 49)=some E):(numF f).2=da_ f∧(da_ f=true→(numF f).1=aI_ f):=by
 have hE0:=hE
 rw[hk] at hE0
 simp[ents] at hE0
 subst hE0
 refine bG_ hf hE (by rw[hk];decide) ?_ (by simp[valE,headE,aI_,hk])
 rw[Bool.eq_iff_iff]
 simp[fW_,conF,ba_,valE,headE,hk]
 all_goals omega
theorem z3_ {f:Nat→Int} (hf:fOk f) (hk:f 3=10) {E:List Ent} (hE:ents (f 3) (f 49)=some E):(numF f).2=da_ f∧(da_ f=true→(numF f).1=aI_ f):=by
 have hE0:=hE
 rw[hk] at hE0
 simp[ents] at hE0
 have hr:f 49=1∨f 49=2∨f 49=3∨f 49=4∨f 49=5∨(f 49≠1∧f 49≠2∧f 49≠3∧f 49≠4∧f 49≠5):=by omega
 rcases hr with hr|hr|hr|hr|hr|hr
 ·have e:E=[(some 47,1,1048576),(some 48,1,2),(some 49,1,5),(some 50,0,0),(some 51,0,0),(some 52,0,0)]:=by rw[← hE0];simp[dL_,hr]
  subst e
  refine bG_ hf hE (by rw[hk];decide) ?_ (by simp[valE,headE,aI_,hk])
  rw[Bool.eq_iff_iff]
  simp[fW_,conF,sB_,q7_,ba_,valE,headE,hk,hr]
  all_goals omega
 ·have e:E=[(some 47,1,1048576),(some 48,1,2),(some 49,1,5),(some 50,0,0),(some 51,0,0),(some 52,0,0)]:=by rw[← hE0];simp[dL_,hr]
  subst e
  refine bG_ hf hE (by rw[hk];decide) ?_ (by simp[valE,headE,aI_,hk])
  rw[Bool.eq_iff_iff]
  simp[fW_,conF,sB_,q7_,ba_,valE,headE,hk,hr]
  all_goals omega
 ·have e:E=[(some 47,1,1048576),(some 48,1,2),(some 49,1,5),(some 50,1,9999),(some 51,0,255),(some 52,1,1099511627776)]:=by rw[← hE0];simp[dL_,hr]
  subst e
  refine bG_ hf hE (by rw[hk];decide) ?_ (by simp[valE,headE,aI_,hk])
  rw[Bool.eq_iff_iff]
  simp[fW_,conF,sB_,q7_,ba_,valE,headE,hk,hr]
  all_goals omega
 ·have e:E=[(some 47,1,1048576),(some 48,1,2),(some 49,1,5),(some 50,1,9999),(some 51,0,255),(some 52,1,64)]:=by rw[← hE0];simp[dL_,hr]
  subst e
  refine bG_ hf hE (by rw[hk];decide) ?_ (by simp[valE,headE,aI_,hk])
  rw[Bool.eq_iff_iff]
  simp[fW_,conF,sB_,q7_,ba_,valE,headE,hk,hr]
  all_goals omega
 ·have e:E=[(some 47,1,1048576),(some 48,1,2),(some 49,1,5),(some 50,1,9999),(some 51,0,255),(some 52,0,0)]:=by rw[← hE0];simp[dL_,hr]
  subst e
  refine bG_ hf hE (by rw[hk];decide) ?_ (by simp[valE,headE,aI_,hk])
  rw[Bool.eq_iff_iff]
  simp[fW_,conF,sB_,q7_,ba_,valE,headE,hk,hr]
  all_goals omega
 ·have e:E=[(some 47,1,1048576),(some 48,1,2),(some 49,1,5),(some 50,1,9999),(some 51,0,255),(some 52,0,0)]:=by rw[← hE0];simp[dL_,hr.1,hr.2.1,hr.2.2.1,hr.2.2.2.1,hr.2.2.2.2]
  subst e
  refine bG_ hf hE (by rw[hk];decide) ?_ (by simp[valE,headE,aI_,hk])
  rw[Bool.eq_iff_iff]
  simp[fW_,conF,sB_,q7_,ba_,valE,headE,hk,hr.1,hr.2.1,hr.2.2.1,hr.2.2.2.1,hr.2.2.2.2]
  all_goals omega
theorem kJ_ {f:Nat→Int} (hf:fOk f):(numF f).2=da_ f∧(da_ f=true→(numF f).1=aI_ f):=by
 cases hE:ents (f 3) (f 49) with
 | none =>
  have hk:¬ (f 3=1∨f 3=2∨f 3=3∨f 3=4∨f 3=5∨f 3=6∨f 3=7∨f 3=8∨f 3=9∨f 3=10∨f 3=11∨f 3=12∨f 3=13):=by
   rintro (h|h|h|h|h|h|h|h|h|h|h|h|h)<;>rw[h] at hE<;>simp[ents] at hE
  simp only[not_or] at hk
  have hc:conF f=false:=by simp[conF,hk]
  have hq:da_ f=false:=by simp[da_,hc]
  rw[hq]
  refine⟨?_,fun h=>by cases h⟩
  unfold numF
  rw[hE]
 | some E =>
  rcases kind_of hE with h|h|h|h|h|h|h|h|h|h|h|h|h
  ·exact DO_ hf h hE
  ·exact DN_ hf h hE
  ·exact DM_ hf h hE
  ·exact DL_ hf h hE
  ·exact DK_ hf h hE
  ·exact DJ_ hf h hE
  ·exact DI_ hf h hE
  ·exact DH_ hf h hE
  ·exact DG_ hf h hE
  ·exact z3_ hf h hE
  ·exact z2_ hf h hE
  ·exact z1_ hf h hE
  ·exact z0_ hf h hE
theorem oi_ {f:Nat→Int} (hf:fOk f):encR f=refR f:=by
 obtain⟨h1,h2⟩:=kJ_ hf
 unfold encR refR Cz_
 rw[h1]
 split
 ·rename_i h
  rw[h2 h]
 ·rfl
theorem t8_:∀ a b:List UInt8,Op.bytesLess a b=decide (Lib.compareBytes a b=-1)
 | [],[]=>by simp[Op.bytesLess,Lib.compareBytes]
 | [],_::_=>by simp[Op.bytesLess,Lib.compareBytes]
 | _::_,[]=>by simp[Op.bytesLess,Lib.compareBytes]
 | x::a,y::b=>by
  rw[Op.bytesLess,Lib.compareBytes,t8_ a b]
  by_cases h1:x<y
  ·simp[h1]
  ·by_cases h2:y<x
   ·have:x≠y:=fun e=>by subst e;exact h1 h2
    simp[h1,h2,this]
   ·have:x=y:=UInt8.le_antisymm (UInt8.not_lt.1 h2) (UInt8.not_lt.1 h1)
    simp[h1,h2,this]
theorem wg_:∀ a b:List UInt8,Lib.compareBytes a b=0↔a=b
 | [],[]=>by simp[Lib.compareBytes]
 | [],_::_=>by simp[Lib.compareBytes]
 | _::_,[]=>by simp[Lib.compareBytes]
 | x::a,y::b=>by
  rw[Lib.compareBytes]
  by_cases h1:x<y
  ·have:x≠y:=fun e=>by subst e;exact absurd h1 (UInt8.lt_irrefl _)
   simp[h1,this]
  ·by_cases h2:y<x
   ·have:x≠y:=fun e=>by subst e;exact h1 h2
    simp[h1,h2,this]
   ·have:x=y:=UInt8.le_antisymm (UInt8.not_lt.1 h2) (UInt8.not_lt.1 h1)
    simp[h1,h2,this,wg_ a b]
theorem t7_:∀ a b:List UInt8,Lib.compareBytes a b=-1∨Lib.compareBytes a b=0∨Lib.compareBytes a b=1
 | [],[]=>by simp[Lib.compareBytes]
 | [],_::_=>by simp[Lib.compareBytes]
 | _::_,[]=>by simp[Lib.compareBytes]
 | x::a,y::b=>by
  rw[Lib.compareBytes]
  split
  ·simp
  ·split
   ·simp
   ·exact t7_ a b
def b5_ (f g:Nat→Int):Int:=if b2_ f g=0 then Lib.compareBytes (refR f).1 (refR g).1 else b2_ f g
def sC (f g:Nat→Int) (i:Nat):St:=mkS 68 [(2,.ptr 2 0),(3,.ptr 3 0),(5,.row 18),(6,.row 25),(7,.d (.v (.int .i64 i)))]
 [(2,fB f),(3,fB g),(18,.row 3 1 3 [.d (.v (.int .i64 (f 2))),.d (.v (.int .i64 (f 0))),.d (.v (.int .i64 (f 1)))]),(25,.row 3 1 3 [.d (.v (.int .i64 (g 2))),.d (.v (.int .i64 (g 0))),.d (.v (.int .i64 (g 1)))])]
def EM_ (f g:Nat→Int) (i:Nat):Prop:=(1≤i→f 2=g 2)∧(2≤i→f 0=g 0)∧(3≤i→f 1=g 1)
set_option maxHeartbeats 4000000 in
theorem fq_ (f g:Nat→Int) (hf:fOk f) (hg:fOk g):Fn0 Tryz.prog 63 [fD f,fD g] (.v (.int .i64 (b5_ f g))):=by
 have ef:=dU_ f hf
 have eg:=dU_ g hg
 refine ac_ (pn:=ao_) aa_ Tryz.func63 rfl fun β0=>?_
 simp only[Tryz.f63]
 simp only[fD]
 repeat(first|apply wG|(apply wR;simp -dsimp)|refine aI ?_)
 refine ak_ (fun m S=>∃ i:Nat,i+m=3∧EM_ f g i∧S=sC f g i) 3 (S0:=sC f g 0) (ae_ [] (by simp[sC]) (by simp[sC])) ⟨0,rfl,⟨by omega,by omega,by omega⟩,rfl⟩ ?_
 rintro m _ ⟨i,hi,hp,rfl⟩
 have hi':i=0∨i=1∨i=2∨i=3:=by omega
 rcases hi' with rfl|rfl|rfl|rfl
 ·simp -dsimp[sC]
  repeat(first|apply wG|(apply wR;simp -dsimp)|refine aI ?_)
  refine cT (by simp) ?_
  refine WP.skip ?_
  simp -dsimp
  refine WP.seq (WP.block ?_)
  repeat(first|apply wG|(apply wR;simp -dsimp)|refine aI ?_)
  refine WP.cond (b:=decide (f 2<g 2)) (by simp) (fun hb=>?_) (fun hb=>?_)
  ·have hb:=of_decide_eq_true hb
   have e:b2_ f g=-1:=by simp[b2_,orL,cK_,hb]
   have e2:b5_ f g=-1:=by rw[b5_,e];rfl
   repeat(first|apply wG|(apply wR;simp -dsimp)|refine aI ?_)
   refine WP.ret (ab_ ?_)
   simp -dsimp[e2]
  have h1:=of_decide_eq_false hb
  refine WP.skip ?_
  simp -dsimp
  repeat(first|apply wG|(apply wR;simp -dsimp)|refine aI ?_)
  refine WP.cond (b:=decide (g 2<f 2)) (by simp) (fun hb=>?_) (fun hb=>?_)
  ·have hb:=of_decide_eq_true hb
   have e:b2_ f g=1:=by simp[b2_,orL,cK_,hb,h1]
   have e2:b5_ f g=1:=by rw[b5_,e];rfl
   repeat(first|apply wG|(apply wR;simp -dsimp)|refine aI ?_)
   refine WP.ret (ab_ ?_)
   simp -dsimp[e2]
  have h2:=of_decide_eq_false hb
  refine WP.skip ?_
  simp -dsimp
  repeat(first|apply wG|(apply wR;simp -dsimp)|refine aI ?_)
  refine loopW.next (sC f g 1) (ae_ [] (by simp[sC,show IntKind.i64.wrap 1=1 from rfl]) (by simp[sC])) 2 (by omega) ⟨1,by omega,⟨fun _=>by first|exact hp.1 (by omega)|omega,fun _=>by first|exact hp.2.1 (by omega)|omega,fun _=>by omega⟩,rfl⟩
 ·simp -dsimp[sC]
  repeat(first|apply wG|(apply wR;simp -dsimp)|refine aI ?_)
  refine cT (by simp) ?_
  refine WP.skip ?_
  simp -dsimp
  refine WP.seq (WP.block ?_)
  repeat(first|apply wG|(apply wR;simp -dsimp)|refine aI ?_)
  refine WP.cond (b:=decide (f 0<g 0)) (by simp) (fun hb=>?_) (fun hb=>?_)
  ·have hb:=of_decide_eq_true hb
   have e:b2_ f g=-1:=by simp[b2_,orL,cK_,hb,hp.1 (by omega)]
   have e2:b5_ f g=-1:=by rw[b5_,e];rfl
   repeat(first|apply wG|(apply wR;simp -dsimp)|refine aI ?_)
   refine WP.ret (ab_ ?_)
   simp -dsimp[e2]
  have h1:=of_decide_eq_false hb
  refine WP.skip ?_
  simp -dsimp
  repeat(first|apply wG|(apply wR;simp -dsimp)|refine aI ?_)
  refine WP.cond (b:=decide (g 0<f 0)) (by simp) (fun hb=>?_) (fun hb=>?_)
  ·have hb:=of_decide_eq_true hb
   have e:b2_ f g=1:=by simp[b2_,orL,cK_,hb,h1,hp.1 (by omega)]
   have e2:b5_ f g=1:=by rw[b5_,e];rfl
   repeat(first|apply wG|(apply wR;simp -dsimp)|refine aI ?_)
   refine WP.ret (ab_ ?_)
   simp -dsimp[e2]
  have h2:=of_decide_eq_false hb
  refine WP.skip ?_
  simp -dsimp
  repeat(first|apply wG|(apply wR;simp -dsimp)|refine aI ?_)
  refine loopW.next (sC f g 2) (ae_ [] (by simp[sC,show IntKind.i64.wrap 2=2 from rfl]) (by simp[sC])) 1 (by omega) ⟨2,by omega,⟨fun _=>by first|exact hp.1 (by omega)|omega,fun _=>by first|exact hp.2.1 (by omega)|omega,fun _=>by omega⟩,rfl⟩
 ·simp -dsimp[sC]
  repeat(first|apply wG|(apply wR;simp -dsimp)|refine aI ?_)
  refine cT (by simp) ?_
  refine WP.skip ?_
  simp -dsimp
  refine WP.seq (WP.block ?_)
  repeat(first|apply wG|(apply wR;simp -dsimp)|refine aI ?_)
  refine WP.cond (b:=decide (f 1<g 1)) (by simp) (fun hb=>?_) (fun hb=>?_)
  ·have hb:=of_decide_eq_true hb
   have e:b2_ f g=-1:=by simp[b2_,orL,cK_,hb,hp.1 (by omega),hp.2.1 (by omega)]
   have e2:b5_ f g=-1:=by rw[b5_,e];rfl
   repeat(first|apply wG|(apply wR;simp -dsimp)|refine aI ?_)
   refine WP.ret (ab_ ?_)
   simp -dsimp[e2]
  have h1:=of_decide_eq_false hb
  refine WP.skip ?_
  simp -dsimp
  repeat(first|apply wG|(apply wR;simp -dsimp)|refine aI ?_)
  refine WP.cond (b:=decide (g 1<f 1)) (by simp) (fun hb=>?_) (fun hb=>?_)
  ·have hb:=of_decide_eq_true hb
   have e:b2_ f g=1:=by simp[b2_,orL,cK_,hb,h1,hp.1 (by omega),hp.2.1 (by omega)]
   have e2:b5_ f g=1:=by rw[b5_,e];rfl
   repeat(first|apply wG|(apply wR;simp -dsimp)|refine aI ?_)
   refine WP.ret (ab_ ?_)
   simp -dsimp[e2]
  have h2:=of_decide_eq_false hb
  refine WP.skip ?_
  simp -dsimp
  repeat(first|apply wG|(apply wR;simp -dsimp)|refine aI ?_)
  refine loopW.next (sC f g 3) (ae_ [] (by simp[sC,show IntKind.i64.wrap 3=3 from rfl]) (by simp[sC])) 0 (by omega) ⟨3,by omega,⟨fun _=>by first|exact hp.1 (by omega)|omega,fun _=>by first|exact hp.2.1 (by omega)|omega,fun _=>by omega⟩,rfl⟩
 ·have hz:b2_ f g=0:=by simp[b2_,orL,cK_,hp.1 (by omega),hp.2.1 (by omega),hp.2.2 (by omega)]
  have er:b5_ f g=Lib.compareBytes (refR f).1 (refR g).1:=if_pos hz
  simp -dsimp[sC]
  repeat(first|apply wG|(apply wR;simp -dsimp)|refine aI ?_)
  refine cF (by simp) ?_
  refine WP.exit ?_
  simp -dsimp
  repeat(first|apply wG|(apply wR;simp -dsimp)|refine aI ?_)
  refine ad_ eY_ ef rfl rfl (by simp[fD]) ?_
  simp -dsimp
  repeat(first|apply wG|(apply wR;simp -dsimp)|refine aI ?_)
  refine ad_ eY_ eg rfl rfl (by simp[fD]) ?_
  simp -dsimp
  rw[er]
  generalize (refR f).1=a
  generalize (refR g).1=b
  have v:=t7_ a b
  have q:=wg_ a b
  have l:=t8_ a b
  repeat(first|apply wG|(apply wR;simp -dsimp[l])|refine aI ?_)
  refine WP.cond (b:=decide (Lib.compareBytes a b=-1)) (by simp[l]) (fun hb=>?_) (fun hb=>?_)
  ·have hb:=of_decide_eq_true hb
   repeat(first|apply wG|(apply wR;simp -dsimp)|refine aI ?_)
   refine WP.ret (ab_ ?_)
   simp -dsimp[hb]
  have h1:=of_decide_eq_false hb
  refine WP.skip ?_
  simp -dsimp
  repeat(first|apply wG|(apply wR;simp -dsimp[l])|refine aI ?_)
  refine WP.cond (b:=decide (Lib.compareBytes a b=1)) (by
   by_cases e:a=b
   ·have:=q.2 e
    subst e
    simp[l,this]
   ·have h0:Lib.compareBytes a b≠0:=fun h=>e (q.1 h)
    have:Lib.compareBytes a b=1:=by omega
    simp[l,e,this]) (fun hb=>?_) (fun hb=>?_)
  ·have hb:=of_decide_eq_true hb
   repeat(first|apply wG|(apply wR;simp -dsimp)|refine aI ?_)
   refine WP.ret (ab_ ?_)
   simp -dsimp[hb]
  have h2:=of_decide_eq_false hb
  have h3:Lib.compareBytes a b=0:=by omega
  refine WP.skip ?_
  simp -dsimp
  repeat(first|apply wG|(apply wR;simp -dsimp)|refine aI ?_)
  refine WP.ret (ab_ ?_)
  simp -dsimp[h3]
@[simp] def vB (k n:Int) (s:ByteArray) (l:List V):Box:=.cells 205 [.d (.v (.int .i64 k)),.d (.v (.int .i64 n)),.d (.v (.string s)),.d (slV l)]
def AT_:V→Int
 | .mk _ n _ _=>n
end Go.Proofs.YtdjkbdhdejlakaaGreatDoor
namespace Go.Proofs.YtdjkbdhdejlakaaGreatDoor
open Go.Xe Go.RowKit
def y2_ (l:List Int) (i:Nat):Int:=(l[i]?).getD 0
def rdE (l:List Int):List Ent→Nat→(Nat→Int)×Int→(Nat→Int)×Int
 | [],_,p=>p
 | (some o,_,_)::r,j,p=>rdE l r (j+1) (fup p.1 o (y2_ l j),p.2)
 | (none,_,_)::r,j,p=>rdE l r (j+1) (p.1,y2_ l j)
def rr_ (l:List Int):Nat→Int:=(rdE l headE 0 (f0,0)).1
def wh_ (l:List Int):List Ent:=(ents (rr_ l 3) 0).getD []
def yI_ (l:List Int):Nat→Int:=fup (rdE l (wh_ l) 4 (rr_ l,0)).1 54 (if (rdE l (wh_ l) 4 (rr_ l,0)).2=1 then 1 else 0)
theorem nX_ (l:List Int):∀ (A B:List Ent),A.map (·.1)=B.map (·.1)→∀ (j:Nat) (p:(Nat→Int)×Int),rdE l A j p=rdE l B j p
 | [],[],_,_,_=>rfl
 | [],_::_,h,_,_=>by simp at h
 | _::_,[],h,_,_=>by simp at h
 | (some o,a,b)::A,(o',a',b')::B,h,j,p=>by
  simp only[List.map_cons,List.cons.injEq] at h
  obtain⟨rfl,h⟩:=h
  rw[rdE,rdE,nX_ l A B h]
 | (none,a,b)::A,(o',a',b')::B,h,j,p=>by
  simp only[List.map_cons,List.cons.injEq] at h
  obtain⟨rfl,h⟩:=h
  rw[rdE,rdE,nX_ l A B h]
theorem my_ (r:Int):(dL_ r).map (·.1)=[some 47,some 48,some 49,some 50,some 51,some 52]:=by
 unfold dL_
 by_cases h1:r=1∨r=2<;>by_cases h3:r=3<;>by_cases h4:r=4<;>simp[h1,h3,h4]
theorem vZ_ {k r:Int} {E:List Ent} (h:ents k r=some E):∃ E0,ents k 0=some E0∧E0.map (·.1)=E.map (·.1):=by
 by_cases hk:k=10
 ·subst hk
  simp[ents] at h
  subst h
  exact⟨dL_ 0,by simp[ents],by rw[my_,my_]⟩
 ·refine⟨E,?_,rfl⟩
  unfold ents at h ⊢
  rw[if_neg hk] at h ⊢
  exact h
theorem s6_ (P:List Int) (x:Int) (R:List Int):y2_ (P++x::R) P.length=x:=by
 rw[y2_,List.getElem?_append_right (Nat.le_refl _),Nat.sub_self];rfl
theorem kw_ (f:Nat→Int) (s:Int) (R:List Int):∀ (E:List Ent) (P:List Int) (p:(Nat→Int)×Int),rdE (P++E.map (valE f s)++R) E P.length p=(wrL f p.1 E,flL s p.2 E)
 | [],P,p=>rfl
 | (some o,a,b)::E,P,p=>by
  have ih:=kw_ f s R E (P++[valE f s (some o,a,b)]) (fup p.1 o (f o),p.2)
  have hn:y2_ (P++(valE f s (some o,a,b)::E.map (valE f s))++R) P.length=f o:=by rw[List.append_assoc,List.cons_append,s6_];rfl
  rw[List.map_cons,rdE,hn,wrL,flL]
  simp only[List.length_append,List.length_cons,List.length_nil,List.append_assoc,List.cons_append,List.nil_append] at ih ⊢
  exact ih
 | (none,a,b)::E,P,p=>by
  have ih:=kw_ f s R E (P++[valE f s (none,a,b)]) (p.1,s)
  have hn:y2_ (P++(valE f s (none,a,b)::E.map (valE f s))++R) P.length=s:=by rw[List.append_assoc,List.cons_append,s6_];rfl
  rw[List.map_cons,rdE,hn,wrL,flL]
  simp only[List.length_append,List.length_cons,List.length_nil,List.append_assoc,List.cons_append,List.nil_append] at ih ⊢
  exact ih
theorem qD_ {f:Nat→Int} (h:(numF f).2=true) (hf:fOk f):yI_ (numF f).1=f:=by
 unfold numF at h ⊢
 cases hE:ents (f 3) (f 49) with
 | none=>rw[hE] at h;simp at h
 | some E =>
  rw[hE] at h
  simp only at h ⊢
  split at h
  case isFalse=>simp at h
  case isTrue hc =>
   rw[if_pos hc]
   simp only at h ⊢
   have hA:(headE++E).all ez_=true:=by rw[List.all_append,eh_,el_ hE];rfl
   have hr:=ki_ hf hA (flL (susp f) 0 (headE++E))
   have he:=(gn_ hr hf).1 h
   have h1:=kw_ f (susp f) (E.map (valE f (susp f))) headE [] (f0,0)
   have h2:=kw_ f (susp f) [] E (headE.map (valE f (susp f))) (wrL f f0 headE,0)
   simp only[List.nil_append,List.length_nil,List.append_nil,← List.map_append,List.length_map,show headE.length=4 from rfl] at h1 h2
   have hg:rr_ ((headE++E).map (valE f (susp f)))=wrL f f0 headE:=by rw[rr_,h1]
   obtain⟨E0,hE0,hfst⟩:=vZ_ hE
   have h3:rr_ ((headE++E).map (valE f (susp f))) 3=f 3:=by rw[hg];simp[headE,wrL,wrE,fup]
   have hcE:wh_ ((headE++E).map (valE f (susp f)))=E0:=by rw[wh_,h3,hE0];rfl
   have h4:=nX_ ((headE++E).map (valE f (susp f))) E0 E hfst 4 (wrL f f0 headE,0)
   rw[h2] at h4
   have hfl:flL (susp f) 0 E=flL (susp f) 0 (headE++E):=by rw[flL_append];rfl
   have hcand:yI_ ((headE++E).map (valE f (susp f)))=fup (wrL f f0 (headE++E)) 54 (if flL (susp f) 0 (headE++E)=1 then 1 else 0):=by
    rw[yI_,hcE,hg,h4,wrL_append,hfl]
   rw[hcand]
   funext i
   have hi:=congrFun he i
   by_cases h54:i=54
   ·subst h54
    rw[← hi]
    simp[dR_,fup]
   ·have e1:fup (wrL f f0 (headE++E)) 54 (if flL (susp f) 0 (headE++E)=1 then 1 else 0) i=wrL f f0 (headE++E) i:=if_neg h54
    rw[e1,ju_]
    split
    ·rfl
    ·rename_i hno
     rw[← hi]
     rw[dR_,fup,if_neg h54]
     have h3':i≠3:=by rintro rfl;exact hno (by simp[hasE,headE])
     split
     ·rename_i hk
      have h49:i≠49:=by
       rintro rfl
       apply hno
       rw[hk] at hE
       simp[ents] at hE
       subst hE
       simp[hasE,dL_]
      rw[ju_,if_neg hno]
      simp[rest0,fup,f0,h3',h49]
     ·rw[fup]
      split
      ·rfl
      ·rename_i h49
       rw[ju_,if_neg hno]
       simp[rest0,fup,f0,h3',h49]
def us_:V→List V
 | .mk _ _ _ l=>l
structure Cmp {α:Type} (c:α→α→Int):Prop where
 val:∀ a b,c a b=-1∨c a b=0∨c a b=1
 anti:∀ a b,c b a = - c a b
 trans:∀ a b d,c a b≤0→c b d≤0→c a d≤0
 same:∀ a b d,c a b=0→c a d=c b d
theorem Cmp.lex {α:Type} {c e:α→α→Int} (h:Cmp c) (k:Cmp e):Cmp fun a b=>if c a b=0 then e a b else c a b where
 val a b:=by
  split
  ·exact k.val a b
  ·exact h.val a b
 anti a b:=by
  have:=h.anti a b
  by_cases h0:c a b=0
  ·have h1:c b a=0:=by omega
   rw[if_pos h0,if_pos h1]
   exact k.anti a b
  ·have h1:¬ c b a=0:=by omega
   rw[if_neg h0,if_neg h1]
   exact this
 trans a b d hab hbd:=by
  by_cases h0:c a b=0
  ·rw[if_pos h0] at hab
   rw[h.same a b d h0]
   by_cases h1:c b d=0
   ·rw[if_pos h1] at hbd
    rw[if_pos h1]
    exact k.trans a b d hab hbd
   ·rw[if_neg h1] at hbd
    rw[if_neg h1]
    exact hbd
  ·rw[if_neg h0] at hab
   by_cases h1:c b d=0
   ·have h2:c d b=0:=by have:=h.anti b d;omega
    have h3:=h.same d b a h2
    have h4:=h.anti a d
    have h5:=h.anti a b
    have h6:c a d=c a b:=by omega
    rw[h6,if_neg h0]
    exact hab
   ·rw[if_neg h1] at hbd
    have h2:=h.trans a b d hab hbd
    have h3:¬ c a d=0:=fun h3=>by
     have h4:c d a=0:=by have:=h.anti a d;omega
     have h5:=h.same d a b h4
     have h6:=h.anti b d
     have h7:=h.val a b
     have h8:=h.val b d
     omega
    rw[if_neg h3]
    exact h2
 same a b d hab:=by
  by_cases h0:c a b=0
  ·rw[if_pos h0] at hab
   rw[h.same a b d h0,k.same a b d hab]
  ·rw[if_neg h0] at hab
   exact absurd hab h0
theorem Cmp.on {α β:Type} {c:β→β→Int} (h:Cmp c) (p:α→β):Cmp fun a b=>c (p a) (p b) :=
 ⟨fun _ _=>h.val _ _,fun _ _=>h.anti _ _,fun _ _ _=>h.trans _ _ _,fun _ _ _=>h.same _ _ _⟩
theorem cmp_int:Cmp cK_ where
 val a b:=by unfold cK_;split<;>(try split)<;>simp
 anti a b:=by unfold cK_;split<;>split<;>(try split)<;>omega
 trans a b d:=by unfold cK_;intro h1 h2;split at h1<;>split at h2<;>(try split at h1)<;>(try split at h2)<;>split<;>(try split)<;>omega
 same a b d:=by unfold cK_;intro h1;split at h1<;>(try split at h1)<;>first|omega|(rw[show a=b by omega];done)
theorem t9_:∀ a b:List UInt8,Lib.compareBytes b a = - Lib.compareBytes a b
 | [],[]=>rfl
 | [],_::_=>rfl
 | _::_,[]=>rfl
 | x::a,y::b=>by
  rw[Lib.compareBytes,Lib.compareBytes,t9_ a b]
  by_cases h1:x<y
  ·have h2:¬ y<x:=fun h2=>absurd (UInt8.lt_trans h1 h2) (UInt8.lt_irrefl _)
   simp[h1,h2]
  ·by_cases h2:y<x<;>simp[h1,h2]
theorem qC_:∀ a b d:List UInt8,Lib.compareBytes a b≤0→Lib.compareBytes b d≤0→Lib.compareBytes a d≤0
 | [],_,[],_,_=>by simp[Lib.compareBytes]
 | [],_,_::_,_,_=>by simp[Lib.compareBytes]
 | _::_,[],_,h,_=>by simp[Lib.compareBytes] at h
 | _::_,_::_,[],_,h=>by simp[Lib.compareBytes] at h
 | x::a,y::b,z::d,h1,h2=>by
  rw[Lib.compareBytes] at h1 h2 ⊢
  have ih:=qC_ a b d
  have tr:=fun (p:x<y) (q:y<z)=>UInt8.lt_trans p q
  by_cases xy:x<y
  ·by_cases yz:y<z
   ·simp[tr xy yz]
   ·by_cases zy:z<y
    ·simp[yz,zy] at h2
    ·have e:y=z:=UInt8.le_antisymm (UInt8.not_lt.1 zy) (UInt8.not_lt.1 yz)
     subst e
     simp[xy]
  ·by_cases yx:y<x
   ·simp[xy,yx] at h1
   ·have e:x=y:=UInt8.le_antisymm (UInt8.not_lt.1 yx) (UInt8.not_lt.1 xy)
    subst e
    simp only[xy,if_false] at h1
    by_cases yz:x<z
    ·simp[yz]
    ·by_cases zy:z<x
     ·simp[yz,zy] at h2
     ·simp only[yz,zy,if_false] at h2 ⊢
      exact ih h1 h2
theorem cmp_bytes:Cmp Lib.compareBytes:=⟨t7_,t9_,qC_,fun a b d h=>by rw[(wg_ a b).1 h]⟩
theorem cmp_fact:Cmp cx_:=by
 have h:=((cmp_int.on fun f:Nat→Int=>f 2).lex (((cmp_int.on fun f:Nat→Int=>f 0).lex ((cmp_int.on fun f:Nat→Int=>f 1).lex (cmp_bytes.on fun f:Nat→Int=>(encR f).1)))))
 have e:cx_=fun f g=>if cK_ (f 2) (g 2)=0 then (if cK_ (f 0) (g 0)=0 then (if cK_ (f 1) (g 1)=0 then Lib.compareBytes (encR f).1 (encR g).1 else cK_ (f 1) (g 1)) else cK_ (f 0) (g 0)) else cK_ (f 2) (g 2):=by
  funext f g
  unfold cx_ b2_ orL
  by_cases h2:cK_ (f 2) (g 2)=0
  ·simp only[h2,if_true]
   by_cases h0:cK_ (f 0) (g 0)=0
   ·simp only[orL,h0,if_true]
    by_cases h1:cK_ (f 1) (g 1)=0
    ·simp[h1]
    ·simp[h1]
   ·simp[orL,h0]
  ·simp[h2]
 rw[e]
 exact h
theorem yC_ {f g:Nat→Int} (hf:fOk f) (hg:fOk g) (vf:(numF f).2=true) (vg:(numF g).2=true) (h:(encR f).1=(encR g).1):f=g:=by
 rw[encR,encR,if_pos vf,if_pos vg] at h
 simp only at h
 have hf1:=(kK_ hf)
 have hg1:=(kK_ hg)
 have a:=do_ hf1.1 (by omega)
 have b:=do_ hg1.1 (by omega)
 unfold Cz_ at h
 have ra:=ur_ (bJ_ (numF f).1) 16 [] (lj_ a.1) a.2.1 (by omega) (by omega)
 have rb:=ur_ (bJ_ (numF g).1) 16 [] (lj_ b.1) b.2.1 (by omega) (by omega)
 rw[h,rb] at ra
 simp only[Option.some.injEq,Prod.mk.injEq,and_true] at ra
 have hn:(numF g).1=(numF f).1:=by
  have:=congrArg (fun v=>(us_ v).map AT_) ra
  simpa [bJ_,us_,p0_,AT_,Function.comp_def] using this
 rw[← qD_ vf hf,← qD_ vg hg,hn]
theorem wa_ {f g:Nat→Int} (hf:fOk f) (hg:fOk g) (vf:(numF f).2=true) (vg:(numF g).2=true):cx_ f g=0↔f=g:=by
 constructor
 ·intro h
  unfold cx_ at h
  split at h
  ·exact yC_ hf hg vf vg ((wg_ _ _).1 h)
  ·rename_i h';exact absurd h h'
 ·rintro rfl
  have:=cmp_fact.anti f f
  omega
end Go.Proofs.YtdjkbdhdejlakaaGreatDoor
