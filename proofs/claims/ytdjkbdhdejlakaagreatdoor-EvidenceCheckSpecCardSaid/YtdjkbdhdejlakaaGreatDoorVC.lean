/-
  Joined texts.
-/
import Derived.Test.YtdjkbdhdejlakaaGreatDoorVB
import Derived.Test.YtdjkbdhdejlakaaGreatDoorVZ
set_option linter.unusedVariables false
set_option linter.unusedSimpArgs false
set_option linter.unusedSectionVars false
namespace Go.Proofs.YtdjkbdhdejlakaaGreatDoor
open Go.Xe Go.RowKit
def vS2 (s:Sg):Bool:=(numF s.1).2
def refS (s:Sg):R2:=cA_ s.1
def lt_ (s:Sg):List Sg→List Sg
 | []=>[s]
 | t::l=>if cx_ t.1 s.1<0 then t::lt_ s l else if cx_ t.1 s.1=0 then t::l else s::t::l
def nY_ (r:R2) (acc:List Sg) (s:Sg):List Sg:=if vS2 s=true∧refS s=r then lt_ s acc else acc
def shlf (r:R2) (l:List Sg):List Sg:=l.foldl (nY_ r) []
theorem fl_ (r:R2) (l:List Sg) (s:Sg):shlf r (l++[s])=nY_ r (shlf r l) s:=by rw[shlf,List.foldl_append];rfl
def wC_ (s:Sg):Prop:=fOk s.1∧(numF s.1).2=true
theorem mD_ {s t:Sg} (hs:wC_ s) (ht:wC_ t):cx_ s.1 t.1=0↔s.1=t.1:=wa_ hs.1 ht.1 hs.2 ht.2
abbrev Cd_ (l:List Sg):Prop:=l.Pairwise fun a b=>cx_ a.1 b.1<0
theorem d4_ {a b c:F} (h:cx_ a b<0) (k:cx_ b c<0):cx_ a c<0:=by
 have h1:=cmp_fact.trans a b c (by omega) (by omega)
 have h2:cx_ a c≠0:=fun e=>by
  have h3:=cmp_fact.same a c b e
  have h4:=cmp_fact.anti b c
  omega
 omega
theorem tm_ {s:Sg} (hs:wC_ s):∀ {l:List Sg},(∀ t∈l,wC_ t)→Cd_ l→Cd_ (lt_ s l)∧(∀ t,t∈lt_ s l↔t∈l∨(t=s∧∀ u∈l,u.1≠s.1))
 | [],_,_=>⟨by simp[lt_],fun t=>by simp[lt_]⟩
 | a::l,hv,ha=>by
  obtain⟨h1,h2⟩:=List.pairwise_cons.1 ha
  obtain⟨i1,i2⟩:=tm_ hs (fun t ht=>hv t (by simp[ht])) h2
  have hza:=mD_ (hv a (by simp)) hs
  rw[lt_]
  by_cases hlt:cx_ a.1 s.1<0
  ·rw[if_pos hlt]
   have hne:a.1≠s.1:=fun e=>by have:=hza.2 e;omega
   refine⟨List.pairwise_cons.2 ⟨fun x hx=>?_,i1⟩,fun t=>?_⟩
   ·rcases (i2 x).1 hx with hx|⟨rfl,_⟩
    ·exact h1 x hx
    ·exact hlt
   ·rw[List.mem_cons,i2,List.mem_cons]
    constructor
    ·rintro (rfl|h|⟨rfl,h⟩)
     ·exact .inl (.inl rfl)
     ·exact .inl (.inr h)
     ·exact .inr ⟨rfl,fun u hu=>by
       rcases List.mem_cons.1 hu with rfl|hu
       ·exact hne
       ·exact h u hu⟩
    ·rintro ((rfl|h)|⟨rfl,h⟩)
     ·exact .inl rfl
     ·exact .inr (.inl h)
     ·exact .inr (.inr ⟨rfl,fun u hu=>h u (by simp[hu])⟩)
  ·rw[if_neg hlt]
   by_cases hz:cx_ a.1 s.1=0
   ·rw[if_pos hz]
    have e:=hza.1 hz
    refine⟨ha,fun t=>⟨.inl,?_⟩⟩
    rintro (h|⟨rfl,h⟩)
    ·exact h
    ·exact absurd e (h a (by simp))
   ·rw[if_neg hz]
    have hgt:cx_ s.1 a.1<0:=by have:=cmp_fact.anti a.1 s.1;omega
    refine⟨List.pairwise_cons.2 ⟨fun x hx=>?_,ha⟩,fun t=>?_⟩
    ·rcases List.mem_cons.1 hx with rfl|hx
     ·exact hgt
     ·exact d4_ hgt (h1 x hx)
    ·rw[List.mem_cons]
     constructor
     ·rintro (rfl|h)
      ·refine .inr ⟨rfl,fun u hu e=>?_⟩
       rcases List.mem_cons.1 hu with rfl|hu
       ·exact hz (hza.2 e)
       ·have h3:=h1 u hu
        rw[e] at h3
        omega
      ·exact .inl h
     ·rintro (h|⟨rfl,_⟩)
      ·exact .inr h
      ·exact .inl rfl
def w3_ (l:List Sg) (s:Sg):Prop:=∃ a b,l=a++s::b∧vS2 s=true∧∀ t∈a,t.1≠s.1
theorem fK_ {l:List Sg} {x s:Sg}:w3_ (l++[x]) s↔w3_ l s∨(s=x∧vS2 x=true∧∀ t∈l,t.1≠x.1):=by
 constructor
 ·rintro⟨a,b,h1,h2,h3⟩
  rcases List.eq_nil_or_concat b with rfl|⟨b,y,rfl⟩
  ·have h4:=List.append_inj' h1 rfl
   obtain⟨rfl,h5⟩:=h4
   cases h5
   exact .inr ⟨rfl,h2,h3⟩
  ·refine .inl ⟨a,b,?_,h2,h3⟩
   have h4:l++[x]=(a++s::b)++[y]:=by rw[h1];simp
   exact (List.append_inj' h4 rfl).1
 ·rintro (⟨a,b,rfl,h2,h3⟩|⟨rfl,h2,h3⟩)
  ·exact⟨a,b++[x],by simp,h2,h3⟩
  ·exact⟨l,[],rfl,h2,h3⟩
theorem bd_ {l:List Sg} {s:Sg} (h:w3_ l s):s∈l:=by
 obtain⟨a,b,rfl,_⟩:=h;simp
theorem kZ_:∀ {l:List Sg} {s:Sg},s∈l→vS2 s=true→∃ t,w3_ l t∧t.1=s.1
 | x::l,s,h,hv=>by
  by_cases e:x.1=s.1
  ·exact⟨x,⟨[],l,rfl,by rw[vS2,e];exact hv,by simp⟩,e⟩
  ·rcases List.mem_cons.1 h with rfl|h
   ·exact absurd rfl e
   ·obtain⟨t,⟨a,b,rfl,h2,h3⟩,h4⟩:=kZ_ h hv
    exact⟨t,⟨x::a,b,rfl,h2,fun u hu=>by
     rcases List.mem_cons.1 hu with rfl|hu
     ·rw[h4];exact e
     ·exact h3 u hu⟩,h4⟩
theorem dP_ (r:R2):∀ (l:List Sg),(∀ s∈l,fOk s.1)→Cd_ (shlf r l)∧∀ s,s∈shlf r l↔w3_ l s∧refS s=r:=by
 intro l
 induction hn:l.length generalizing l with
 | zero =>
  have:l=[]:=List.eq_nil_of_length_eq_zero hn
  subst this
  intro _
  refine⟨List.Pairwise.nil,fun s=>?_⟩
  simp only[shlf,List.foldl_nil,List.not_mem_nil,false_iff]
  rintro⟨h,_⟩
  have:=bd_ h
  cases this
 | succ n ih =>
  intro hv
  rcases List.eq_nil_or_concat l with rfl|⟨l,x,rfl⟩
  ·cases hn
  ·simp only[List.concat_eq_append] at hn hv ⊢
   obtain⟨i1,i2⟩:=ih l (by simpa using hn) fun s hs=>hv s (by simp[hs])
   have hsv:∀ t∈shlf r l,wC_ t:=fun t ht=>by
    obtain⟨h1,_⟩:=(i2 t).1 ht
    have h2:=bd_ h1
    obtain⟨_,_,_,h3,_⟩:=h1
    exact⟨hv t (by simp[h2]),h3⟩
   rw[fl_,nY_]
   by_cases hp:vS2 x=true∧refS x=r
   ·rw[if_pos hp]
    obtain⟨k1,k2⟩:=tm_ (s:=x) ⟨hv x (by simp),hp.1⟩ hsv i1
    refine⟨k1,fun s=>?_⟩
    rw[k2,i2,fK_]
    constructor
    ·rintro (⟨h1,h2⟩|⟨rfl,h1⟩)
     ·exact⟨.inl h1,h2⟩
     ·refine⟨.inr ⟨rfl,hp.1,fun t ht e=>?_⟩,hp.2⟩
      obtain⟨u,hu,hu2⟩:=kZ_ ht (show vS2 t=true by rw[vS2,e];exact hp.1)
      exact h1 u ((i2 u).2 ⟨hu,by rw[refS,hu2,e];exact hp.2⟩) (by rw[hu2,e])
    ·rintro⟨h1|⟨rfl,h1,h3⟩,h2⟩
     ·exact .inl ⟨h1,h2⟩
     ·exact .inr ⟨rfl,fun u hu=>h3 u (bd_ ((i2 u).1 hu).1)⟩
   ·rw[if_neg hp]
    refine⟨i1,fun s=>?_⟩
    rw[i2,fK_]
    constructor
    ·rintro⟨h1,h2⟩;exact⟨.inl h1,h2⟩
    ·rintro⟨h1|⟨rfl,h1,_⟩,h2⟩
     ·exact⟨h1,h2⟩
     ·exact absurd ⟨h1,h2⟩ hp
def nA_ (l:List Sg):List R2:=(l.filter vS2).map refS
def two (x:List Sg):Option (Sg×Sg):=match x with
 | a::b::_=>some (a,b)
 | _=>none
def frkL (l:List Sg):List (Sg×Sg):=(sortR (nA_ l)).filterMap fun r=>two (shlf r l)
theorem se_ {r:R2} {l:List Sg} (hv:∀ s∈l,fOk s.1) {a b:Sg} (h:two (shlf r l)=some (a,b)):w3_ l a∧w3_ l b∧refS a=r∧refS b=r∧cx_ a.1 b.1<0:=by
 obtain⟨h1,h2⟩:=dP_ r l hv
 cases hx:shlf r l with
 | nil=>rw[hx] at h;cases h
 | cons x t =>
  cases t with
  | nil=>rw[hx] at h;cases h
  | cons y t =>
   rw[hx] at h h1
   cases h
   have ha:=(h2 a).1 (by rw[hx];simp)
   have hb:=(h2 b).1 (by rw[hx];simp)
   exact⟨ha.1,hb.1,ha.2,hb.2,(List.pairwise_cons.1 h1).1 b (by simp)⟩
theorem jw_ {l:List Sg} {f:F}:f∈vF l↔∃ s∈l,s.1=f∧vS2 s=true:=by
 rw[vF,List.mem_filter,List.mem_map]
 constructor
 ·rintro⟨⟨s,hs,rfl⟩,h⟩;exact⟨s,hs,rfl,h⟩
 ·rintro⟨s,hs,rfl,h⟩;exact⟨⟨s,hs,rfl⟩,h⟩
theorem eC_ {l:List Sg} (h:∀ s∈l,fOk s.1):∀ f∈vF l,fOk f:=fun f hf=>by
 obtain⟨s,hs,rfl,_⟩:=jw_.1 hf
 exact h s hs
def ofR (r:R2) (l:List Sg):List Sg:=l.filter fun s=>decide (refS s=r)
theorem pz_ (r:R2) (l:List Sg):shlf r (ofR r l)=shlf r l:=by
 unfold shlf ofR
 generalize ([]:List Sg)=a
 induction l generalizing a with
 | nil=>rfl
 | cons s l ih =>
  rw[List.foldl_cons,← ih]
  by_cases h:refS s=r
  ·rw[List.filter_cons,if_pos (by simp[h])];rfl
  ·rw[List.filter_cons,if_neg (by simp[h]),nY_,if_neg (fun h'=>h h'.2)]
theorem sn_ {r:R2}:∀ {l:List R2},(∀ x∈l,x=r)→sortR l=if l=[] then [] else [r]
 | [],_=>rfl
 | x::l,h=>by
  rw[if_neg (by simp)]
  refine (py_ (List.pairwise_singleton _ _) fun y=>?_).symm
  constructor
  ·intro hy;rw[List.mem_singleton] at hy;subst hy;rw[← h x (by simp)];simp
  ·intro hy;rw[h y hy];simp
def fndO (a b:List Sg) (r:R2):Option (Sg×Sg):=two (shlf r (a++b))
theorem ql_ (l:List Sg) (r:R2):frkL (ofR r l)=(two (shlf r l)).toList:=by
 have h1:∀ x∈nA_ (ofR r l),x=r:=fun x hx=>by
  obtain⟨s,hs,rfl⟩:=List.mem_map.1 hx
  have:=(List.mem_filter.1 (List.mem_filter.1 hs).1).2
  simpa using this
 rw[frkL,sn_ h1]
 by_cases h2:nA_ (ofR r l)=[]
 ·rw[if_pos h2]
  have h3:shlf r l=[]:=by
   rw[← pz_]
   have h4:∀ s∈ofR r l,vS2 s=false:=fun s hs=>by
    cases hv:vS2 s with
    | false=>rfl
    | true =>
     have:refS s∈nA_ (ofR r l):=List.mem_map.2 ⟨s,List.mem_filter.2 ⟨hs,hv⟩,rfl⟩
     rw[h2] at this;cases this
   generalize ofR r l=m at h4
   unfold shlf
   have:∀ (m a:List Sg),(∀ s∈m,vS2 s=false)→m.foldl (nY_ r) a=a:=by
    intro m
    induction m with
    | nil=>intro a _;rfl
    | cons s m ih =>
     intro a h
     rw[List.foldl_cons,nY_,if_neg (by rw[h s (by simp)];simp),ih a fun t ht=>h t (by simp[ht])]
   exact this m [] h4
  rw[h3];rfl
 ·rw[if_neg h2,List.filterMap_cons,List.filterMap_nil,pz_]
  cases two (shlf r l)<;>rfl
section
variable {a b:List Sg} (ha:∀ s∈a,fOk s.1) (hb:∀ s∈b,fOk s.1)
include ha hb
end
def jg_ (t s:Sg):Bool:=decide (ltR (refS t) (refS s))||(decide (refS t=refS s)&&decide (cx_ t.1 s.1<0))
theorem befB_iff {t s:Sg}:jg_ t s=true↔ltR (refS t) (refS s)∨(refS t=refS s∧cx_ t.1 s.1<0):=by simp[jg_]
theorem oq_ {a b:Sg} (h:jg_ a b=true):¬ jg_ b a=true:=by
 rw[befB_iff] at h ⊢
 rintro (k|⟨k1,k2⟩)
 ·rcases h with h|⟨h,_⟩
  ·exact td_ h k
  ·rw[h] at k;exact ltR_irr _ k
 ·rcases h with h|⟨_,h⟩
  ·rw[k1] at h;exact ltR_irr _ h
  ·have:=cmp_fact.anti a.1 b.1;omega
theorem mK_ {a b c:Sg} (h:jg_ a b=true) (k:jg_ b c=true):jg_ a c=true:=by
 rw[befB_iff] at h k ⊢
 rcases h with h|⟨h1,h2⟩
 ·rcases k with k|⟨k1,_⟩
  ·exact .inl (h8_ h k)
  ·exact .inl (k1▸h)
 ·rcases k with k|⟨k1,k2⟩
  ·exact .inl (h1▸k)
  ·exact .inr ⟨h1.trans k1,d4_ h2 k2⟩
def lu_ (s:Sg):List Sg→List Sg
 | []=>[s]
 | t::l=>if jg_ t s=true then t::lu_ s l else if eqF t.1 s.1=true then t::l else s::t::l
def srtB (l:List Sg):List Sg:=l.foldl (fun a s=>if vS2 s=true then lu_ s a else a) []
theorem hM_ (l:List Sg) (s:Sg):srtB (l++[s])=if vS2 s=true then lu_ s (srtB l) else srtB l:=by rw[srtB,List.foldl_append];rfl
abbrev zn_ (l:List Sg):Prop:=l.Pairwise fun a b=>jg_ a b=true
theorem tp_ {s:Sg} (hs:wC_ s):∀ {l:List Sg},(∀ t∈l,wC_ t)→zn_ l→zn_ (lu_ s l)∧(∀ t,t∈lu_ s l↔t∈l∨(t=s∧∀ u∈l,u.1≠s.1))
 | [],_,_=>⟨by simp[lu_],fun t=>by simp[lu_]⟩
 | a::l,hv,ha=>by
  obtain⟨h1,h2⟩:=List.pairwise_cons.1 ha
  obtain⟨i1,i2⟩:=tp_ hs (fun t ht=>hv t (by simp[ht])) h2
  have hza:=mD_ (hv a (by simp)) hs
  have hee:=gn_ (hv a (by simp)).1 hs.1
  rw[lu_]
  by_cases hlt:jg_ a s=true
  ·rw[if_pos hlt]
   have hne:a.1≠s.1:=fun e=>by
    rcases befB_iff.1 hlt with h|⟨_,h⟩
    ·rw[refS,refS,e] at h;exact ltR_irr _ h
    ·have:=hza.2 e;omega
   refine⟨List.pairwise_cons.2 ⟨fun x hx=>?_,i1⟩,fun t=>?_⟩
   ·rcases (i2 x).1 hx with hx|⟨rfl,_⟩
    ·exact h1 x hx
    ·exact hlt
   ·rw[List.mem_cons,i2,List.mem_cons]
    constructor
    ·rintro (rfl|h|⟨rfl,h⟩)
     ·exact .inl (.inl rfl)
     ·exact .inl (.inr h)
     ·exact .inr ⟨rfl,fun u hu=>by
       rcases List.mem_cons.1 hu with rfl|hu
       ·exact hne
       ·exact h u hu⟩
    ·rintro ((rfl|h)|⟨rfl,h⟩)
     ·exact .inl rfl
     ·exact .inr (.inl h)
     ·exact .inr (.inr ⟨rfl,fun u hu=>h u (by simp[hu])⟩)
  ·rw[if_neg hlt]
   by_cases hz:eqF a.1 s.1=true
   ·rw[if_pos hz]
    have e:=hee.1 hz
    refine⟨ha,fun t=>⟨.inl,?_⟩⟩
    rintro (h|⟨rfl,h⟩)
    ·exact h
    ·exact absurd e (h a (by simp))
   ·rw[if_neg hz]
    have hgt:jg_ s a=true:=by
     rw[befB_iff] at hlt ⊢
     rcases ltR_tri (refS s) (refS a) with h|h|h
     ·exact .inl h
     ·right
      refine⟨h,?_⟩
      have h3:¬ cx_ a.1 s.1<0:=fun h'=>hlt (.inr ⟨h.symm,h'⟩)
      have h4:cx_ a.1 s.1≠0:=fun e=>hz (hee.2 (hza.1 e))
      have:=cmp_fact.anti a.1 s.1
      omega
     ·exact absurd (.inl h) hlt
    refine⟨List.pairwise_cons.2 ⟨fun x hx=>?_,ha⟩,fun t=>?_⟩
    ·rcases List.mem_cons.1 hx with rfl|hx
     ·exact hgt
     ·exact mK_ hgt (h1 x hx)
    ·rw[List.mem_cons]
     constructor
     ·rintro (rfl|h)
      ·refine .inr ⟨rfl,fun u hu e=>?_⟩
       rcases List.mem_cons.1 hu with rfl|hu
       ·exact hz (hee.2 e)
       ·have h3:=mK_ hgt (h1 u hu)
        rcases befB_iff.1 h3 with h|⟨_,h⟩
        ·rw[refS,refS,e] at h;exact ltR_irr _ h
        ·rw[e] at h;have:=cmp_fact.anti t.1 t.1;omega
      ·exact .inl h
     ·rintro (h|⟨rfl,_⟩)
      ·exact .inr h
      ·exact .inl rfl
theorem nI_:∀ (l:List Sg),(∀ s∈l,fOk s.1)→zn_ (srtB l)∧∀ s,s∈srtB l↔w3_ l s:=by
 intro l
 induction hn:l.length generalizing l with
 | zero =>
  have:l=[]:=List.eq_nil_of_length_eq_zero hn
  subst this
  intro _
  refine⟨List.Pairwise.nil,fun s=>?_⟩
  simp only[srtB,List.foldl_nil,List.not_mem_nil,false_iff]
  intro h
  have:=bd_ h
  cases this
 | succ n ih =>
  intro hv
  rcases List.eq_nil_or_concat l with rfl|⟨l,x,rfl⟩
  ·cases hn
  ·simp only[List.concat_eq_append] at hn hv ⊢
   obtain⟨i1,i2⟩:=ih l (by simpa using hn) fun s hs=>hv s (by simp[hs])
   have hsv:∀ t∈srtB l,wC_ t:=fun t ht=>by
    have h1:=(i2 t).1 ht
    have h2:=bd_ h1
    obtain⟨_,_,_,h3,_⟩:=h1
    exact⟨hv t (by simp[h2]),h3⟩
   rw[hM_]
   by_cases hp:vS2 x=true
   ·rw[if_pos hp]
    obtain⟨k1,k2⟩:=tp_ (s:=x) ⟨hv x (by simp),hp⟩ hsv i1
    refine⟨k1,fun s=>?_⟩
    rw[k2,i2,fK_]
    constructor
    ·rintro (h1|⟨rfl,h1⟩)
     ·exact .inl h1
     ·refine .inr ⟨rfl,hp,fun t ht e=>?_⟩
      obtain⟨u,hu,hu2⟩:=kZ_ ht (show vS2 t=true by rw[vS2,e];exact hp)
      exact h1 u ((i2 u).2 hu) (by rw[hu2,e])
    ·rintro (h1|⟨rfl,h1,h3⟩)
     ·exact .inl h1
     ·exact .inr ⟨rfl,fun u hu=>h3 u (bd_ ((i2 u).1 hu))⟩
   ·rw[if_neg hp]
    refine⟨i1,fun s=>?_⟩
    rw[i2,fK_]
    constructor
    ·exact .inl
    ·rintro (h1|⟨rfl,h1,_⟩)
     ·exact h1
     ·exact absurd h1 hp
theorem wK_:∀ {A B:List Sg},zn_ A→zn_ B→(∀ x,x∈A↔x∈B)→A=B
 | [],[],_,_,_=>rfl
 | [],b::B,_,_,h=>absurd ((h b).2 (by simp)) (by simp)
 | a::A,[],_,_,h=>absurd ((h a).1 (by simp)) (by simp)
 | a::A,b::B,ha,hb,h=>by
  obtain⟨ha1,ha2⟩:=List.pairwise_cons.1 ha
  obtain⟨hb1,hb2⟩:=List.pairwise_cons.1 hb
  have irr:∀ x:Sg,¬ jg_ x x=true:=fun x hx=>oq_ hx hx
  have e:a=b:=by
   rcases List.mem_cons.1 ((h a).1 (by simp)) with e|h1
   ·exact e
   ·rcases List.mem_cons.1 ((h b).2 (by simp)) with e|h2
    ·exact e.symm
    ·exact absurd (ha1 b h2) (oq_ (hb1 a h1))
  subst e
  rw[wK_ ha2 hb2 fun x=>?_]
  constructor
  ·intro hx
   rcases List.mem_cons.1 ((h x).1 (by simp[hx])) with e|h1
   ·subst e;exact absurd (ha1 x hx) (irr _)
   ·exact h1
  ·intro hx
   rcases List.mem_cons.1 ((h x).2 (by simp[hx])) with e|h1
   ·subst e;exact absurd (hb1 x hx) (irr _)
   ·exact h1
theorem xq_ (l:List Sg) (hv:∀ s∈l,fOk s.1):srtB l=(sortR (nA_ l)).flatMap fun r=>shlf r l:=by
 obtain⟨h1,h2⟩:=nI_ l hv
 refine wK_ h1 ?_ fun s=>?_
 ·have key:∀ rs:List R2,hc_ rs→zn_ (rs.flatMap fun r=>shlf r l):=by
   intro rs
   induction rs with
   | nil=>intro _;exact List.Pairwise.nil
   | cons r rs ih =>
    intro ha
    obtain⟨a1,a2⟩:=List.pairwise_cons.1 ha
    rw[List.flatMap_cons]
    obtain⟨k1,k2⟩:=dP_ r l hv
    refine List.pairwise_append.2 ⟨?_,ih a2,fun a ha b hb=>?_⟩
    ·exact k1.imp_of_mem fun {a b} ha hb hlt=>befB_iff.2 (.inr ⟨((k2 a).1 ha).2.trans ((k2 b).1 hb).2.symm,hlt⟩)
    ·obtain⟨r',hr',hb⟩:=List.mem_flatMap.1 hb
     have e1:=((k2 a).1 ha).2
     have e2:=(((dP_ r' l hv).2 b).1 hb).2
     exact befB_iff.2 (.inl (by rw[e1,e2];exact a1 r' hr'))
  exact key _ (cn_ _)
 ·rw[h2,List.mem_flatMap]
  constructor
  ·intro h
   refine⟨refS s,(cE_ _ _).2 (List.mem_map.2 ⟨s,List.mem_filter.2 ⟨bd_ h,?_⟩,rfl⟩),((dP_ (refS s) l hv).2 s).2 ⟨h,rfl⟩⟩
   obtain⟨_,_,_,h3,_⟩:=h
   exact h3
  ·rintro⟨r,_,h⟩
   exact (((dP_ r l hv).2 s).1 h).1
def pickA:Option R2→List Sg→List (Sg×Sg)
 | _,[]=>[]
 | _,[_]=>[]
 | p,a::b::l=>(if refS a=refS b∧p≠some (refS a) then [(a,b)] else [])++pickA (some (refS a)) (b::l)
theorem l7_ {r:R2}:∀ {t rest:List Sg},(∀ s∈t,refS s=r)→(∀ s∈rest,refS s≠r)→pickA (some r) (t++rest)=pickA (some r) rest
 | [],_,_,_=>rfl
 | [a],[],_,_=>rfl
 | [a],b::u,h1,h2=>by
  have e:=h1 a (by simp)
  show pickA (some r) (a::b::u)=_
  rw[pickA,if_neg (by rw[e];exact fun h=>h2 b (by simp) h.1.symm),e]
  rfl
 | a::b::t,rest,h1,h2=>by
  have e:=h1 a (by simp)
  have ih:=l7_ (t:=b::t) (rest:=rest) (fun s hs=>h1 s (by simp[hs])) h2
  show pickA (some r) (a::b::(t++rest))=_
  rw[pickA,if_neg (by rw[e];exact fun h=>h.2 rfl),e]
  exact ih
theorem fu_ (g:R2→List Sg) (hg:∀ r,∀ s∈g r,refS s=r):∀ (rs:List R2) (p:Option R2),hc_ rs→(∀ r∈rs,p≠some r)→pickA p (rs.flatMap g)=rs.filterMap fun r=>two (g r)
 | [],_,_,_=>rfl
 | r::rs,p,ha,hp=>by
  obtain⟨a1,a2⟩:=List.pairwise_cons.1 ha
  have hrest:∀ s∈rs.flatMap g,refS s≠r:=fun s hs e=>by
   obtain⟨r',hr',hs⟩:=List.mem_flatMap.1 hs
   rw[hg r' s hs] at e
   subst e
   exact ltR_irr _ (a1 _ hr')
  have hsr:∀ r'∈rs,(some r:Option R2)≠some r':=fun r' hr' e=>by cases e;exact ltR_irr _ (a1 _ hr')
  rw[List.flatMap_cons,List.filterMap_cons]
  have hgr:=hg r
  cases hx:g r with
  | nil =>
   rw[show two ([]:List Sg)=none from rfl]
   simp only[List.nil_append]
   exact fu_ g hg rs p a2 fun r' hr'=>hp r' (by simp[hr'])
  | cons a t =>
   rw[hx] at hgr
   have ea:=hgr a (by simp)
   cases t with
   | nil =>
    rw[show two [a]=none from rfl]
    simp only[List.cons_append,List.nil_append]
    have ih:=fu_ g hg rs (some r) a2 hsr
    rw[← ih]
    cases hu:rs.flatMap g with
    | nil=>rfl
    | cons b u =>
     rw[hu] at hrest
     rw[pickA,if_neg (by rw[ea];exact fun h=>hrest b (by simp) h.1.symm),ea]
     rfl
   | cons b t =>
    have eb:=hgr b (by simp)
    rw[show two (a::b::t)=some (a,b) from rfl]
    simp only[List.cons_append]
    rw[pickA,if_pos ⟨ea.trans eb.symm,by rw[ea];exact hp r (by simp)⟩,ea]
    have h1:=l7_ (r:=r) (t:=b::t) (rest:=rs.flatMap g) (fun s hs=>hgr s (by simp[hs])) hrest
    rw[List.cons_append] at h1
    rw[h1,fu_ g hg rs (some r) a2 hsr]
    rfl
theorem ym_ (l:List Sg) (hv:∀ s∈l,fOk s.1):pickA none (srtB l)=frkL l:=by
 rw[xq_ l hv]
 exact fu_ (fun r=>shlf r l) (fun r s hs=>(((dP_ r l hv).2 s).1 hs).2) _ none (cn_ _) fun _ _ h=>by cases h
end Go.Proofs.YtdjkbdhdejlakaaGreatDoor
