/-
  Joined texts.
-/
import Derived.Test.YtfgcgagcpnbgmaaGreatDoorWJa
import Derived.Test.YtfgcgagcpnbgmaaGreatDoorWKh
import Derived.Test.YtfgcgagcpnbgmaaGreatDoorWKg
import Derived.Test.YtfgcgagcpnbgmaaGreatDoorWKc
set_option linter.unusedVariables false
set_option linter.unusedSimpArgs false
set_option linter.unusedSectionVars false
namespace Go.Proofs.YtfgcgagcpnbgmaaGreatDoor
open Go.Xe Go.RowKit
def vS2 (s:Sg):Bool:=(numF s.1).2
def refS (s:Sg):R2:=Ec_ s.1
def k1_ (s:Sg):List Sg→List Sg
 | []=>[s]
 | t::l=>if er_ t.1 s.1<0 then t::k1_ s l else if er_ t.1 s.1=0 then t::l else s::t::l
def ra_ (r:R2) (acc:List Sg) (s:Sg):List Sg:=if vS2 s=true∧refS s=r then k1_ s acc else acc
def shlf (r:R2) (l:List Sg):List Sg:=l.foldl (ra_ r) []
theorem eL_ (r:R2) (l:List Sg) (s:Sg):shlf r (l++[s])=ra_ r (shlf r l) s:=by rw[shlf,List.foldl_append];rfl
def yU_ (s:Sg):Prop:=fOk s.1∧(numF s.1).2=true
theorem tp_ {s t:Sg} (hs:yU_ s) (ht:yU_ t):er_ s.1 t.1=0↔s.1=t.1:=pF_ hs.1 ht.1 hs.2 ht.2
abbrev BE_ (l:List Sg):Prop:=l.Pairwise fun a b=>er_ a.1 b.1<0
theorem f2_ {a b c:F} (h:er_ a b<0) (k:er_ b c<0):er_ a c<0:=by
 have h1:=cmp_fact.trans a b c (by omega) (by omega)
 have h2:er_ a c≠0:=fun e=>by
  have h3:=cmp_fact.same a c b e
  have h4:=cmp_fact.anti b c
  omega
 omega
theorem sI_ {s:Sg} (hs:yU_ s):∀ {l:List Sg},(∀ t∈l,yU_ t)→BE_ l→BE_ (k1_ s l)∧(∀ t,t∈k1_ s l↔t∈l∨(t=s∧∀ u∈l,u.1≠s.1))
 | [],_,_=>⟨by simp[k1_],fun t=>by simp[k1_]⟩
 | a::l,hv,ha=>by
  obtain⟨h1,h2⟩:=List.pairwise_cons.1 ha
  obtain⟨i1,i2⟩:=sI_ hs (fun t ht=>hv t (by simp[ht])) h2
  have hza:=tp_ (hv a (by simp)) hs
  rw[k1_]
  by_cases hlt:er_ a.1 s.1<0
  ·rw[if_pos hlt]
   have hne:a.1≠s.1:=fun e=>by have:=hza.2 e;omega
   refine⟨List.pairwise_cons.2 ⟨fun x hx=>?_,i1⟩,fun t=>?_⟩
   ·rcases (i2 x).1 hx with hx|⟨rfl,_⟩
    ·exact h1 x hx
    ·exact hlt
   ·rw[List.mem_cons,i2,List.mem_cons]
    constructor
    ·rintro (rfl|h|⟨rfl,h⟩)
     ·exact .inl (.inl rfl)
     ·exact .inl (.inr h)
     ·exact .inr ⟨rfl,fun u hu=>by
       rcases List.mem_cons.1 hu with rfl|hu
       ·exact hne
       ·exact h u hu⟩
    ·rintro ((rfl|h)|⟨rfl,h⟩)
     ·exact .inl rfl
     ·exact .inr (.inl h)
     ·exact .inr (.inr ⟨rfl,fun u hu=>h u (by simp[hu])⟩)
  ·rw[if_neg hlt]
   by_cases hz:er_ a.1 s.1=0
   ·rw[if_pos hz]
    have e:=hza.1 hz
    refine⟨ha,fun t=>⟨.inl,?_⟩⟩
    rintro (h|⟨rfl,h⟩)
    ·exact h
    ·exact absurd e (h a (by simp))
   ·rw[if_neg hz]
    have hgt:er_ s.1 a.1<0:=by have:=cmp_fact.anti a.1 s.1;omega
    refine⟨List.pairwise_cons.2 ⟨fun x hx=>?_,ha⟩,fun t=>?_⟩
    ·rcases List.mem_cons.1 hx with rfl|hx
     ·exact hgt
     ·exact f2_ hgt (h1 x hx)
    ·rw[List.mem_cons]
     constructor
     ·rintro (rfl|h)
      ·refine .inr ⟨rfl,fun u hu e=>?_⟩
       rcases List.mem_cons.1 hu with rfl|hu
       ·exact hz (hza.2 e)
       ·have h3:=h1 u hu
        rw[e] at h3
        omega
      ·exact .inl h
     ·rintro (h|⟨rfl,_⟩)
      ·exact .inr h
      ·exact .inl rfl
def xv_ (l:List Sg) (s:Sg):Prop:=∃ a b,l=a++s::b∧vS2 s=true∧∀ t∈a,t.1≠s.1
theorem lE_ {l:List Sg} {x s:Sg}:xv_ (l++[x]) s↔xv_ l s∨(s=x∧vS2 x=true∧∀ t∈l,t.1≠x.1):=by
 constructor
 ·rintro⟨a,b,h1,h2,h3⟩
  rcases List.eq_nil_or_concat b with rfl|⟨b,y,rfl⟩
  ·have h4:=List.append_inj' h1 rfl
   obtain⟨rfl,h5⟩:=h4
   cases h5
   exact .inr ⟨rfl,h2,h3⟩
  ·refine .inl ⟨a,b,?_,h2,h3⟩
   have h4:l++[x]=(a++s::b)++[y]:=by rw[h1];simp
   exact (List.append_inj' h4 rfl).1
 ·rintro (⟨a,b,rfl,h2,h3⟩|⟨rfl,h2,h3⟩)
  ·exact⟨a,b++[x],by simp,h2,h3⟩
  ·exact⟨l,[],rfl,h2,h3⟩
theorem cB_ {l:List Sg} {s:Sg} (h:xv_ l s):s∈l:=by
 obtain⟨a,b,rfl,_⟩:=h;simp
theorem nK_:∀ {l:List Sg} {s:Sg},s∈l→vS2 s=true→∃ t,xv_ l t∧t.1=s.1
 | x::l,s,h,hv=>by
  by_cases e:x.1=s.1
  ·exact⟨x,⟨[],l,rfl,by rw[vS2,e];exact hv,by simp⟩,e⟩
  ·rcases List.mem_cons.1 h with rfl|h
   ·exact absurd rfl e
   ·obtain⟨t,⟨a,b,rfl,h2,h3⟩,h4⟩:=nK_ h hv
    exact⟨t,⟨x::a,b,rfl,h2,fun u hu=>by
     rcases List.mem_cons.1 hu with rfl|hu
     ·rw[h4];exact e
     ·exact h3 u hu⟩,h4⟩
theorem m9_ (r:R2):∀ (l:List Sg),(∀ s∈l,fOk s.1)→BE_ (shlf r l)∧∀ s,s∈shlf r l↔xv_ l s∧refS s=r:=by
 intro l
 induction hn:l.length generalizing l with
 | zero =>
  have:l=[]:=List.eq_nil_of_length_eq_zero hn
  subst this
  intro _
  refine⟨List.Pairwise.nil,fun s=>?_⟩
  simp only[shlf,List.foldl_nil,List.not_mem_nil,false_iff]
  rintro⟨h,_⟩
  have:=cB_ h
  cases this
 | succ n ih =>
  intro hv
  rcases List.eq_nil_or_concat l with rfl|⟨l,x,rfl⟩
  ·cases hn
  ·simp only[List.concat_eq_append] at hn hv ⊢
   obtain⟨i1,i2⟩:=ih l (by simpa using hn) fun s hs=>hv s (by simp[hs])
   have hsv:∀ t∈shlf r l,yU_ t:=fun t ht=>by
    obtain⟨h1,_⟩:=(i2 t).1 ht
    have h2:=cB_ h1
    obtain⟨_,_,_,h3,_⟩:=h1
    exact⟨hv t (by simp[h2]),h3⟩
   rw[eL_,ra_]
   by_cases hp:vS2 x=true∧refS x=r
   ·rw[if_pos hp]
    obtain⟨k1,k2⟩:=sI_ (s:=x) ⟨hv x (by simp),hp.1⟩ hsv i1
    refine⟨k1,fun s=>?_⟩
    rw[k2,i2,lE_]
    constructor
    ·rintro (⟨h1,h2⟩|⟨rfl,h1⟩)
     ·exact⟨.inl h1,h2⟩
     ·refine⟨.inr ⟨rfl,hp.1,fun t ht e=>?_⟩,hp.2⟩
      obtain⟨u,hu,hu2⟩:=nK_ ht (show vS2 t=true by rw[vS2,e];exact hp.1)
      exact h1 u ((i2 u).2 ⟨hu,by rw[refS,hu2,e];exact hp.2⟩) (by rw[hu2,e])
    ·rintro⟨h1|⟨rfl,h1,h3⟩,h2⟩
     ·exact .inl ⟨h1,h2⟩
     ·exact .inr ⟨rfl,fun u hu=>h3 u (cB_ ((i2 u).1 hu).1)⟩
   ·rw[if_neg hp]
    refine⟨i1,fun s=>?_⟩
    rw[i2,lE_]
    constructor
    ·rintro⟨h1,h2⟩;exact⟨.inl h1,h2⟩
    ·rintro⟨h1|⟨rfl,h1,_⟩,h2⟩
     ·exact⟨h1,h2⟩
     ·exact absurd ⟨h1,h2⟩ hp
def rc_ (l:List Sg):List R2:=(l.filter vS2).map refS
def two (x:List Sg):Option (Sg×Sg):=match x with
 | a::b::_=>some (a,b)
 | _=>none
def frkL (l:List Sg):List (Sg×Sg):=(sortR (rc_ l)).filterMap fun r=>two (shlf r l)
theorem vW_ {r:R2} {l:List Sg} (hv:∀ s∈l,fOk s.1) {a b:Sg} (h:two (shlf r l)=some (a,b)):xv_ l a∧xv_ l b∧refS a=r∧refS b=r∧er_ a.1 b.1<0:=by
 obtain⟨h1,h2⟩:=m9_ r l hv
 cases hx:shlf r l with
 | nil=>rw[hx] at h;cases h
 | cons x t =>
  cases t with
  | nil=>rw[hx] at h;cases h
  | cons y t =>
   rw[hx] at h h1
   cases h
   have ha:=(h2 a).1 (by rw[hx];simp)
   have hb:=(h2 b).1 (by rw[hx];simp)
   exact⟨ha.1,hb.1,ha.2,hb.2,(List.pairwise_cons.1 h1).1 b (by simp)⟩
end Go.Proofs.YtfgcgagcpnbgmaaGreatDoor
set_option linter.unusedVariables false
set_option linter.unusedSimpArgs false
set_option linter.unusedSectionVars false
namespace Go.Proofs.YtfgcgagcpnbgmaaGreatDoor
open Go.Xe Go.RowKit
def shF (c n t:Int):F:=fun i=>if i=0 then c else if i=1 then n else if i=2 then t else if i=3 then 12 else 0
theorem yV_ {c n t:Int} (h1:isI c) (h2:isI n) (h3:isI t):fOk (shF c n t):=by
 refine⟨fun i=>?_,.inl rfl,fun i hi=>?_⟩
 ·unfold shF
  split
  ·exact h1
  ·split
   ·exact h2
   ·split
    ·exact h3
    ·split
     ·unfold isI;omega
     ·exact sG_
 ·unfold shF
  rw[if_neg (by omega),if_neg (by omega),if_neg (by omega),if_neg (by omega)]
def zs:List D:=[.v (.int .i64 0),ys_,ys_,ys_]
end Go.Proofs.YtfgcgagcpnbgmaaGreatDoor
set_option linter.unusedVariables false
set_option linter.unusedSimpArgs false
set_option linter.unusedSectionVars false
namespace Go.Proofs.YtfgcgagcpnbgmaaGreatDoor
open Go.Xe Go.RowKit
theorem di_ (a b:Int):Leq (.agg [.d (.v (.int .i64 a)),.d (.v (.int .i64 b))]) (.d (.v (eO_ (a,b)))):=fun w I β v hv=>by
 obtain⟨vs,rfl,x,vs1,rfl,h1,y,vs2,rfl,h2,h3⟩:=hv
 have h3:vs2=[]:=h3
 subst h3
 rw[DenA_v] at h1 h2
 subst h1;subst h2
 exact DenA_v.2 rfl
end Go.Proofs.YtfgcgagcpnbgmaaGreatDoor
set_option linter.unusedVariables false
set_option linter.unusedSimpArgs false
set_option linter.unusedSectionVars false
namespace Go.Proofs.YtfgcgagcpnbgmaaGreatDoor
open Go.Xe Go.RowKit
section
variable {a b:List Sg} (ha:∀ s∈a,fOk s.1) (hb:∀ s∈b,fOk s.1)
include ha hb
end
end Go.Proofs.YtfgcgagcpnbgmaaGreatDoor
set_option linter.unusedVariables false
set_option linter.unusedSimpArgs false
set_option linter.unusedSectionVars false
namespace Go.Proofs.YtfgcgagcpnbgmaaGreatDoor
open Go.Xe Go.RowKit
def pickA:Option R2→List Sg→List (Sg×Sg)
 | _,[]=>[]
 | _,[_]=>[]
 | p,a::b::l=>(if refS a=refS b∧p≠some (refS a) then [(a,b)] else [])++pickA (some (refS a)) (b::l)
end Go.Proofs.YtfgcgagcpnbgmaaGreatDoor
