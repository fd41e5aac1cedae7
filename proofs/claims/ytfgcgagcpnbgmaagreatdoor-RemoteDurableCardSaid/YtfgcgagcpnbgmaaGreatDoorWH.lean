/-
  Joined texts.
-/
import Derived.Test.YtfgcgagcpnbgmaaGreatDoorWG
set_option linter.unusedVariables false
set_option linter.unusedSimpArgs false
set_option linter.unusedSectionVars false
namespace Go.Proofs.YtfgcgagcpnbgmaaGreatDoor
open Go.Xe Go.RowKit
def hasE (A:List Ent) (i:Nat):Bool:=A.any fun e=>decide (e.1=some i)
theorem k5_ (f:Nat→Int):∀ (A:List Ent) (g:Nat→Int) (i:Nat),wrL f g A i=if hasE A i=true then f i else g i
 | [],g,i=>by simp[wrL,hasE]
 | (some o,lo,hi)::A,g,i=>by
  rw[wrL,k5_ f A]
  have:hasE ((some o,lo,hi)::A) i=(decide (o=i)||hasE A i):=by simp[hasE]
  rw[this]
  by_cases h1:hasE A i=true
  ·simp[h1]
  ·simp only[h1,Bool.or_false,decide_eq_true_eq]
   simp only[wrE,fup]
   by_cases h2:o=i
   ·subst h2;simp
   ·rw[if_neg h2,if_neg (by simp),if_neg (Ne.symm h2)]
 | (none,lo,hi)::A,g,i=>by
  rw[wrL,k5_ f A]
  have:hasE ((none,lo,hi)::A) i=hasE A i:=by simp[hasE]
  rw[this]
  rfl
end Go.Proofs.YtfgcgagcpnbgmaaGreatDoor
namespace Go.Proofs.YtfgcgagcpnbgmaaGreatDoor
open Go.Xe Go.RowKit
theorem x5_:∀ a b:List UInt8,Lib.compareBytes a b=0↔a=b
 | [],[]=>by simp[Lib.compareBytes]
 | [],_::_=>by simp[Lib.compareBytes]
 | _::_,[]=>by simp[Lib.compareBytes]
 | x::a,y::b=>by
  rw[Lib.compareBytes]
  by_cases h1:x<y
  ·have:x≠y:=fun e=>by subst e;exact absurd h1 (UInt8.lt_irrefl _)
   simp[h1,this]
  ·by_cases h2:y<x
   ·have:x≠y:=fun e=>by subst e;exact h1 h2
    simp[h1,h2,this]
   ·have:x=y:=UInt8.le_antisymm (UInt8.not_lt.1 h2) (UInt8.not_lt.1 h1)
    simp[h1,h2,this,x5_ a b]
theorem wp_:∀ a b:List UInt8,Lib.compareBytes a b=-1∨Lib.compareBytes a b=0∨Lib.compareBytes a b=1
 | [],[]=>by simp[Lib.compareBytes]
 | [],_::_=>by simp[Lib.compareBytes]
 | _::_,[]=>by simp[Lib.compareBytes]
 | x::a,y::b=>by
  rw[Lib.compareBytes]
  split
  ·simp
  ·split
   ·simp
   ·exact wp_ a b
@[simp] def vB (k n:Int) (s:ByteArray) (l:List V):Box:=.cells 166 [.d (.v (.int .i64 k)),.d (.v (.int .i64 n)),.d (.v (.string s)),.d (slV l)]
theorem zz_ (k n:Int) (s:ByteArray) (l:List V):Fun Tryz.prog 186 [.ptr 1000 0,.ptr 1001 0] [(1000,sB l.length),(1001,vB k n s l)] (.d (.v (.int .i64 0))) [(1000,sB l.length),(1001,vB k n s l)] fun _=>False:=by
 refine ad_ (pn:=ap_) aa_ Tryz.func186 rfl fun β0=>?_
 simp only[Tryz.f186]
 repeat(first|apply wG|(apply wR;simp -dsimp)|refine aI ?_)
 refine cT (by simp) ?_
 repeat(first|apply wG|(apply wR;simp -dsimp)|refine aI ?_)
 refine WP.ret (ac_ ?_)
 simp -dsimp
def V.num:V→Int
 | .mk _ n _ _=>n
theorem zA_ (k n:Int) (s:ByteArray) (l1:List V) (v:V) (l2:List V) (hl:l1.length≤1000000000000) :
  Fun Tryz.prog 186 [.ptr 1000 0,.ptr 1001 0] [(1000,sB l1.length),(1001,vB k n s (l1++v::l2))] (.d (.v (.int .i64 v.num))) [(1000,sB (l1.length+1:Nat)),(1001,vB k n s (l1++v::l2))] fun _=>False:=by
 obtain⟨l,hl'⟩:∃ l,l1++v::l2=l:=⟨_,rfl⟩
 have hv:=fP_ l1 v l2
 rw[hl'] at hv ⊢
 have hlen:l.length=l1.length+(l2.length+1):=by rw[← hl'];simp
 obtain⟨k',n',s',l'⟩:=v
 rw[V.cells] at hv
 have e1:IntKind.i64.wrap ((l1.length:Int)+1)=(l1.length:Int)+1:=IntWalk.i64_in _ (by omega)
 have e2:IntKind.i64.wrap ((l1.length:Int)+1-1)=(l1.length:Int):=by rw[IntWalk.i64_in _ (by omega)];omega
 have e3:IntKind.i64.wrap (l1.length:Int)=(l1.length:Int):=IntWalk.i64_in _ (by omega)
 refine ad_ (pn:=ap_) aa_ Tryz.func186 rfl fun β0=>?_
 simp only[Tryz.f186]
 repeat(first|apply wG|(apply wR;simp -dsimp)|refine aI ?_)
 refine cF (by simp;omega) ?_
 refine WP.skip ?_
 simp -dsimp
 repeat(first|apply wG|(apply wR;simp -dsimp[e1,e2,e3,hv])|refine aI ?_)
 refine WP.ret (ac_ ?_)
 simp -dsimp[V.num]
def xi_ (l:List V) (i:Nat):Int:=match l[i]? with
 | some v=>v.num
 | none=>0
theorem nD_ (k n:Int) (s:ByteArray) (l:List V) (j:Nat) (hl:l.length≤1000000000000) :
  Fun Tryz.prog 186 [.ptr 1000 0,.ptr 1001 0] [(1000,sB (min j l.length:Nat)),(1001,vB k n s l)] (.d (.v (.int .i64 (xi_ l j)))) [(1000,sB (min (j+1) l.length:Nat)),(1001,vB k n s l)] fun _=>False:=by
 by_cases h:j<l.length
 ·have e:l=l.take j++l[j]::l.drop (j+1):=by rw[List.getElem_cons_drop,List.take_append_drop]
  have hj:(l.take j).length=j:=by rw[List.length_take];omega
  have hc:=zA_ k n s (l.take j) l[j] (l.drop (j+1)) (by omega)
  rw[← e,hj] at hc
  have hn:xi_ l j=l[j].num:=by rw[xi_,List.getElem?_eq_getElem h]
  rw[show min j l.length=j by omega,show min (j+1) l.length=j+1 by omega,hn]
  exact hc
 ·have hn:xi_ l j=0:=by rw[xi_,List.getElem?_eq_none (by omega)]
  rw[show min j l.length=l.length by omega,show min (j+1) l.length=l.length by omega,hn]
  exact zz_ k n s l
def rd_ (l:List Int) (i:Nat):Int:=(l[i]?).getD 0
theorem nthL_eq (l:List V) (i:Nat):xi_ l i=rd_ (l.map V.num) i:=by
 rw[xi_,rd_,List.getElem?_map]
 cases l[i]? <;> rfl
def rdE (l:List Int):List Ent→Nat→(Nat→Int)×Int→(Nat→Int)×Int
 | [],_,p=>p
 | (some o,_,_)::r,j,p=>rdE l r (j+1) (fup p.1 o (rd_ l j),p.2)
 | (none,_,_)::r,j,p=>rdE l r (j+1) (p.1,rd_ l j)
theorem dJ_ (l:List Int):∀ (A B:List Ent) (j:Nat) (p:(Nat→Int)×Int),rdE l (A++B) j p=rdE l B (j+A.length) (rdE l A j p)
 | [],B,j,p=>rfl
 | (some o,lo,hi)::A,B,j,p=>by rw[List.cons_append,rdE,dJ_ l A B,rdE];congr 1;simp;omega
 | (none,lo,hi)::A,B,j,p=>by rw[List.cons_append,rdE,dJ_ l A B,rdE];congr 1;simp;omega
def gL_ (l:List Int):Nat→Int:=(rdE l headE 0 (f0,0)).1
def ig_ (l:List Int):List Ent:=(ents (gL_ l 3) 0).getD []
def fM_ (l:List Int):Nat→Int:=fup (rdE l (ig_ l) 4 (gL_ l,0)).1 54 (if (rdE l (ig_ l) 4 (gL_ l,0)).2=1 then 1 else 0)
theorem nq_ (l:List Int):∀ (A B:List Ent),A.map (·.1)=B.map (·.1)→∀ (j:Nat) (p:(Nat→Int)×Int),rdE l A j p=rdE l B j p
 | [],[],_,_,_=>rfl
 | [],_::_,h,_,_=>by simp at h
 | _::_,[],h,_,_=>by simp at h
 | (some o,a,b)::A,(o',a',b')::B,h,j,p=>by
  simp only[List.map_cons,List.cons.injEq] at h
  obtain⟨rfl,h⟩:=h
  rw[rdE,rdE,nq_ l A B h]
 | (none,a,b)::A,(o',a',b')::B,h,j,p=>by
  simp only[List.map_cons,List.cons.injEq] at h
  obtain⟨rfl,h⟩:=h
  rw[rdE,rdE,nq_ l A B h]
theorem lL_ (r:Int):(gN_ r).map (·.1)=[some 47,some 48,some 49,some 50,some 51,some 52]:=by
 unfold gN_
 by_cases h1:r=1∨r=2<;>by_cases h3:r=3<;>by_cases h4:r=4<;>simp[h1,h3,h4]
theorem vg_ {k r:Int} {E:List Ent} (h:ents k r=some E):∃ E0,ents k 0=some E0∧E0.map (·.1)=E.map (·.1):=by
 by_cases hk:k=10
 ·subst hk
  simp[ents] at h
  subst h
  exact⟨gN_ 0,by simp[ents],by rw[lL_,lL_]⟩
 ·refine⟨E,?_,rfl⟩
  unfold ents at h ⊢
  rw[if_neg hk] at h ⊢
  exact h
theorem sq_ (P:List Int) (x:Int) (R:List Int):rd_ (P++x::R) P.length=x:=by
 rw[rd_,List.getElem?_append_right (Nat.le_refl _),Nat.sub_self];rfl
theorem j0_ (f:Nat→Int) (s:Int) (R:List Int):∀ (E:List Ent) (P:List Int) (p:(Nat→Int)×Int),rdE (P++E.map (valE f s)++R) E P.length p=(wrL f p.1 E,flL s p.2 E)
 | [],P,p=>rfl
 | (some o,a,b)::E,P,p=>by
  have ih:=j0_ f s R E (P++[valE f s (some o,a,b)]) (fup p.1 o (f o),p.2)
  have hn:rd_ (P++(valE f s (some o,a,b)::E.map (valE f s))++R) P.length=f o:=by rw[List.append_assoc,List.cons_append,sq_];rfl
  rw[List.map_cons,rdE,hn,wrL,flL]
  simp only[List.length_append,List.length_cons,List.length_nil,List.append_assoc,List.cons_append,List.nil_append] at ih ⊢
  exact ih
 | (none,a,b)::E,P,p=>by
  have ih:=j0_ f s R E (P++[valE f s (none,a,b)]) (p.1,s)
  have hn:rd_ (P++(valE f s (none,a,b)::E.map (valE f s))++R) P.length=s:=by rw[List.append_assoc,List.cons_append,sq_];rfl
  rw[List.map_cons,rdE,hn,wrL,flL]
  simp only[List.length_append,List.length_cons,List.length_nil,List.append_assoc,List.cons_append,List.nil_append] at ih ⊢
  exact ih
theorem kK_ {f:Nat→Int} (h:(numF f).2=true) (hf:fOk f):fM_ (numF f).1=f:=by
 unfold numF at h ⊢
 cases hE:ents (f 3) (f 49) with
 | none=>rw[hE] at h;simp at h
 | some E =>
  rw[hE] at h
  simp only at h ⊢
  split at h
  case isFalse=>simp at h
  case isTrue hc =>
   rw[if_pos hc]
   simp only at h ⊢
   have hA:(headE++E).all cY_=true:=by rw[List.all_append,dM_,cb_ hE];rfl
   have hr:=jY_ hf hA (flL (susp f) 0 (headE++E))
   have he:=(fH_ hr hf).1 h
   have h1:=j0_ f (susp f) (E.map (valE f (susp f))) headE [] (f0,0)
   have h2:=j0_ f (susp f) [] E (headE.map (valE f (susp f))) (wrL f f0 headE,0)
   simp only[List.nil_append,List.length_nil,List.append_nil,← List.map_append,List.length_map,show headE.length=4 from rfl] at h1 h2
   have hg:gL_ ((headE++E).map (valE f (susp f)))=wrL f f0 headE:=by rw[gL_,h1]
   obtain⟨E0,hE0,hfst⟩:=vg_ hE
   have h3:gL_ ((headE++E).map (valE f (susp f))) 3=f 3:=by rw[hg];simp[headE,wrL,wrE,fup]
   have hcE:ig_ ((headE++E).map (valE f (susp f)))=E0:=by rw[ig_,h3,hE0];rfl
   have h4:=nq_ ((headE++E).map (valE f (susp f))) E0 E hfst 4 (wrL f f0 headE,0)
   rw[h2] at h4
   have hfl:flL (susp f) 0 E=flL (susp f) 0 (headE++E):=by rw[flL_append];rfl
   have hcand:fM_ ((headE++E).map (valE f (susp f)))=fup (wrL f f0 (headE++E)) 54 (if flL (susp f) 0 (headE++E)=1 then 1 else 0):=by
    rw[fM_,hcE,hg,h4,wrL_append,hfl]
   rw[hcand]
   funext i
   have hi:=congrFun he i
   by_cases h54:i=54
   ·subst h54
    rw[← hi]
    simp[fr_,fup]
   ·have e1:fup (wrL f f0 (headE++E)) 54 (if flL (susp f) 0 (headE++E)=1 then 1 else 0) i=wrL f f0 (headE++E) i:=if_neg h54
    rw[e1,k5_]
    split
    ·rfl
    ·rename_i hno
     rw[← hi]
     rw[fr_,fup,if_neg h54]
     have h3':i≠3:=by rintro rfl;exact hno (by simp[hasE,headE])
     split
     ·rename_i hk
      have h49:i≠49:=by
       rintro rfl
       apply hno
       rw[hk] at hE
       simp[ents] at hE
       subst hE
       simp[hasE,gN_]
      rw[k5_,if_neg hno]
      simp[rest0,fup,f0,h3',h49]
     ·rw[fup]
      split
      ·rfl
      ·rename_i h49
       rw[k5_,if_neg hno]
       simp[rest0,fup,f0,h3',h49]
def V.items:V→List V
 | .mk _ _ _ l=>l
def nA_ (bs:List UInt8):List Int:=(pDec bs).1.items.map V.num
def yw_ (bs:List UInt8) (l:List Int):(Nat→Int)×Int:=if encR (fM_ l)=(bs,0) then (fM_ l,0) else (f0,120)
def decF (bs:List UInt8):(Nat→Int)×Int:=if (pDec bs).2=0 then yw_ bs (nA_ bs) else (f0,(pDec bs).2)
def tf_ (bs:List UInt8):D:=.tup [fD (decF bs).1,.v (.int .i64 (decF bs).2)]
theorem pDec_facts {bs:List UInt8} (h:bs.length≤1000000000000):((pDec bs).2=0∧(pDec bs).1.rng=true∧(pDec bs).1.enc=bs∧(pDec bs).1.ok=true∧(pDec bs).1.dep≤16)∨pDec bs=(.mk 0 0 ⟨#[]⟩ [],20):=by
 cases hv:pVal 16 bs with
 | none=>right;rw[pDec,hv]
 | some x =>
  obtain⟨v,r⟩:=x
  cases r with
  | cons c r=>right;rw[pDec,hv]
  | nil =>
   obtain⟨w1,w2,w3,w4⟩:=tG_ 16 bs v [] h hv
   left
   rw[pDec,hv]
   exact⟨rfl,w4,by rw[w1,List.append_nil],w2,w3⟩
theorem jT_:∀ {l:List V},ba_ l=true→∀ x∈l.map V.num,isI x
 | [],_,x,hx=>by simp at hx
 | .mk k n s l'::l,h,x,hx=>by
  simp only[ba_,Bool.and_eq_true] at h
  rw[List.map_cons,List.mem_cons] at hx
  rcases hx with rfl|hx
  ·exact (c3_ h.1).1
  ·exact jT_ h.2 x hx
theorem sp_ {l:List Int} (h:∀ x∈l,isI x) (i:Nat):isI (rd_ l i):=by
 rw[rd_]
 cases hi:l[i]? with
 | none=>exact sG_
 | some x=>exact h x (List.mem_of_getElem? hi)
theorem oT_ {l:List Int} (h:∀ x∈l,isI x):∀ (A:List Ent) (j:Nat) (p:(Nat→Int)×Int),(∀ i,isI (p.1 i))→isI p.2→(∀ i,isI ((rdE l A j p).1 i))∧isI (rdE l A j p).2
 | [],_,_,h1,h2=>⟨h1,h2⟩
 | (some o,_,_)::A,j,p,h1,h2=>oT_ h A (j+1) _ (h9_ h1 (sp_ h j)) h2
 | (none,_,_)::A,j,p,h1,h2=>oT_ h A (j+1) _ h1 (sp_ h j)
theorem jZ_ {l:List Int}:∀ (A:List Ent) (j:Nat) (p:(Nat→Int)×Int),A.all cY_=true→(∀ i,57≤i→p.1 i=0)→∀ i,57≤i→(rdE l A j p).1 i=0
 | [],_,_,_,h1=>h1
 | (some o,lo,hi)::A,j,p,hA,h1=>by
  rw[List.all_cons,Bool.and_eq_true] at hA
  refine jZ_ A (j+1) _ hA.2 fun i hi=>?_
  have:o<57∧o≠54:=by simpa [cY_] using hA.1
  simp only[fup]
  rw[if_neg (by omega)]
  exact h1 i hi
 | (none,lo,hi)::A,j,p,hA,h1=>by
  rw[List.all_cons,Bool.and_eq_true] at hA
  exact jZ_ A (j+1) _ hA.2 h1
theorem vF_ (l:List Int):(ig_ l).all cY_=true:=by
 rw[ig_]
 cases h:ents (gL_ l 3) 0 with
 | none=>rfl
 | some E=>exact cb_ h
theorem pI_ {l:List Int} (h:∀ x∈l,isI x):fOk (fM_ l):=by
 have h1:=oT_ h headE 0 (f0,0) (fun _=>sG_) sG_
 have h2:=oT_ h (ig_ l) 4 (gL_ l,0) h1.1 sG_
 refine⟨h9_ h2.1 (by split<;>simp[isI]),?_,fun i hi=>?_⟩
 ·unfold fM_ fup;simp only[if_true];split<;>simp
 ·rw[fM_,fup,if_neg (by omega)]
  exact jZ_ (ig_ l) 4 _ (vF_ l) (jZ_ headE 0 _ dM_ (fun _ _=>rfl)) i hi
theorem qG_ {e:Ent} (h:e∈headE):∃ o lo hi,e=(some o,lo,hi)∧o<57∧o≠54:=by
 simp only[headE,List.mem_cons,List.not_mem_nil,or_false] at h
 rcases h with rfl|rfl|rfl|rfl<;>exact⟨_,_,_,rfl,by decide,by decide⟩
def sD1 (bs:List UInt8) (k n:Int) (s:ByteArray) (l:List V) (A1:List Ent):St :=
 mkS 74 [(0,.d (slB bs)),(2,.ptr 2 0),(3,.d (.v (.int .i64 0))),(4,.ptr 4 0),(5,.ptr 5 0),(6,.fn (.func 186) [] [.ptr 5 0,.ptr 4 0]),(26,.row 26),(27,.d (.v (.int .i64 4))),(28,.d (.v (.int .i64 A1.length)))]
  [(2,fB (rdE (l.map V.num) A1 0 (f0,0)).1),(4,vB k n s l),(5,sB (min A1.length l.length:Nat)),(26,.row 238 3 4 (bm_ 2 2 headE))]
def sD2 (bs:List UInt8) (k n:Int) (s:ByteArray) (l:List V) (E A1:List Ent):St :=
 mkS 74 [(0,.d (slB bs)),(2,.ptr 2 0),(3,.d (.v (.int .i64 0))),(4,.ptr 4 0),(5,.ptr 5 0),(6,.fn (.func 186) [] [.ptr 5 0,.ptr 4 0]),(9,.ptr 9 0),(43,.row 701),(44,.d (.v (.int .i64 E.length))),(45,.d (.v (.int .i64 A1.length)))]
  [(2,fB (rdE (l.map V.num) A1 4 (gL_ (l.map V.num),0)).1),(4,vB k n s l),(5,sB (min (4+A1.length) l.length:Nat)),(9,sB (rdE (l.map V.num) A1 4 (gL_ (l.map V.num),0)).2),(701,.row 238 3 E.length (bm_ 2 9 E))]
theorem nW_ {v:V} (h:v.ok=true):v.items.length≤v.enc.length:=by
 obtain⟨k,n,s,l⟩:=v
 rw[V.enc]
 simp only[V.items]
 simp[V.ok] at h
 have:=fO_ l
 by_cases h1:k=1
 ·simp[h1] at h;simp[h.2]
 ·by_cases h2:k=2
  ·simp[h2] at h;simp[h.2]
  ·simp[h1,h2];omega
theorem rdE_snoc (l:List Int) (A:List Ent) (o:Nat) (lo hi:Int) (j:Nat) (p:(Nat→Int)×Int):rdE l (A++[(some o,lo,hi)]) j p=(fup (rdE l A j p).1 o (rd_ l (j+A.length)),(rdE l A j p).2):=by rw[dJ_];rfl
theorem rdE_snocN (l:List Int) (A:List Ent) (lo hi:Int) (j:Nat) (p:(Nat→Int)×Int):rdE l (A++[(none,lo,hi)]) j p=((rdE l A j p).1,rd_ l (j+A.length)):=by rw[dJ_];rfl
theorem zh_ (f:Nat→Int) (s:Int) {E:List Ent} (hE:ents (f 3) (f 49)=some E∧clos (f 3)=none∨ents (f 3) (f 49)=none∧E=[]) :
  ∃ fv:Value,fv.oneCell'=true∧Fun Tryz.prog 161 [.ptr 1000 0,.ptr 1001 0] [(1000,fB f),(1001,sB s)] (.tup [.agg [.row 0,.d (.v fv)],.d .any]) [(1000,fB f),(1001,sB s),(0,.row 238 3 E.length (bm_ 1000 1001 E))] fun _=>False:=by
 rcases hE with⟨hE,hc⟩|⟨hE,rfl⟩
 ·exact⟨_,rfl,(sg_ f s hE hc).res (Leq.tup ⟨Leq.refl _,Leq.any _,trivial⟩) (by simp[m8_])⟩
 ·refine⟨.nilFunc,rfl,fun w I β vs hm hd=>?_⟩
  refine Calls.mono (sf_ f s hE w I β vs hm hd) fun e w' he=>?_
  cases e with
  | returned v =>
   obtain⟨I',β',h1,h2,h3⟩:=he
   refine⟨I',upd β' 0 (.slice none 0 0),(h1.addNil (k:=0) rfl 238 3).sub (fun k b h=>h),?_,fun k hk=>by rw[upd_other _ _ (by omega)];exact h3 k hk⟩
   obtain⟨vs1,rfl,v1,vs2,rfl,⟨us,rfl,u1,us2,rfl,h4,u3,us3,rfl,h5,h6⟩,v3,vs4,rfl,h7,h8⟩:=h2
   refine⟨_,rfl,_,_,rfl,⟨_,rfl,_,_,rfl,?_,_,_,rfl,h5,h6⟩,_,_,rfl,trivial,h8⟩
   rw[DenA_v] at h4
   subst h4
   exact⟨by rw[upd_same],.inl ⟨_,_,_,rfl⟩⟩
  | panicked ch=>exact he
  | outgrown=>exact he
set_option maxRecDepth 10000 in
set_option maxHeartbeats 4000000 in
theorem cD_ (bs:List UInt8) (hbs:bs.length≤1000000000):Fn0 Tryz.prog 118 [slB bs] (tf_ bs):=by
 have h18:=z4_ bs (by omega)
 rw[vv_] at h18
 have hpf:=pDec_facts (bs:=bs) (by omega)
 unfold tf_ decF nA_
 generalize pDec bs=R at *
 obtain⟨⟨k,n,s,l⟩,e⟩:=R
 rcases hpf with⟨h0,hrng,henc,hok,_⟩|hbad
 ·simp only at h0 hrng henc hok
  subst h0
  have hL:=(c3_ hrng).2
  have hin:=jT_ hL
  have hlen:=nW_ hok
  rw[henc] at hlen
  simp only[V.items] at hlen
  have hg:=pI_ hin
  have h17:=dt_ _ hg
  rw[yv_] at h17
  simp only[if_true,V.items]
  refine ad_ (pn:=ap_) aa_ Tryz.func118 rfl fun β0=>?_
  simp only[Tryz.f118]
  repeat(first|apply wG|(apply wR;simp -dsimp[d3_])|refine aI ?_)
  refine ab_ ge_ h18 rfl rfl (by simp) ?_
  simp -dsimp[V.d,V.cells]
  repeat(first|apply wG|(apply wR;simp -dsimp)|refine aI ?_)
  refine cF (by simp) ?_
  refine WP.skip ?_
  simp -dsimp
  repeat(first|apply wG|(apply wR;simp -dsimp)|refine aI ?_)
  refine vcStop.call bY_ (h5_ f0) (rl [(1000,2),(0,26)]) rfl rfl (by simp[BoxLeq]) (af_ (by simp[BoxLeq]) rfl (by first|rfl|(simp[BoxLeq];done)) (by simp[BoxLeq]) (by simp[BoxLeq])) (fun _ h=>h.elim) (fun ⟨_,h⟩=>h.elim) (fun ⟨_,h⟩=>h.elim) (by simp[BoxLeq]) ?_
  simp -dsimp
  repeat(first|apply wG|(apply wR;simp -dsimp)|refine aI ?_)
  refine ai_ (fun m S=>∃ A1 A2,headE=A1++A2∧m=A2.length∧S=sD1 bs k n s l A1) 4 (S0:=sD1 bs k n s l [])
   (ae_ [] (by simp[sD1]) (by simp[sD1,rdE])) ⟨[],headE,rfl,rfl,rfl⟩ ?_
  rintro _ _ ⟨A1,A2,hA12,rfl,rfl⟩
  have hll:4=A1.length+A2.length:=by rw[← List.length_append,← hA12];rfl
  simp -dsimp[sD1]
  repeat(first|apply wG|(apply wR;simp -dsimp)|refine aI ?_)
  cases A2 with
  | cons e A2 =>
   have hl1:A1.length<4:=by simp at hll;omega
   have e1:IntKind.i64.wrap ((A1.length:Int)+1)=(A1.length:Int)+1:=IntWalk.i64_in _ (by omega)
   obtain⟨o,lo,hi,rfl,ho,ho'⟩:=qG_ (e:=e) (by rw[hA12];simp)
   have h1:=kz_ 2 2 A1 (some o,lo,hi) A2
   rw[← hA12] at h1
   simp only[locA] at h1
   refine cT (by simp;omega) ?_
   refine WP.skip ?_
   simp -dsimp
   refine WP.seq (WP.block ?_)
   repeat(first|apply wG|(apply wR;simp -dsimp[h1])|refine aI ?_)
   refine vcStop.call dy_ (nD_ k n s l A1.length (by omega)) (rl [(1000,5),(1001,4)]) rfl rfl (by simp[BoxLeq]) (af_ (by simp[BoxLeq]) rfl (by first|rfl|(simp[BoxLeq];done)) (by simp[BoxLeq]) (by simp[BoxLeq])) (fun _ h=>h.elim) (fun ⟨_,h⟩=>h.elim) (fun ⟨_,h⟩=>h.elim) (by simp[BoxLeq]) ?_
   simp -dsimp
   repeat(first|apply wG|(apply wR;simp -dsimp[ho,ho'])|refine aI ?_)
   refine loopW.next (sD1 bs k n s l (A1++[(some o,lo,hi)])) (ae_ [8] (by simp[sD1,e1]) (by simp[sD1,rdE_snoc,nthL_eq])) A2.length (by simp) ⟨A1++[(some o,lo,hi)],A2,by simp[hA12],rfl,rfl⟩
  | nil =>
   simp only[List.append_nil] at hA12
   subst hA12
   refine cF (by simp[headE]) ?_
   refine WP.exit ?_
   simp -dsimp
   have hG0:(rdE (l.map V.num) headE 0 (f0,0)).1=gL_ (l.map V.num):=rfl
   rw[hG0]
   have hl0:∀ m:Nat,min 4 l.length=min (4+0) l.length:=fun _=>rfl
   generalize hGd:gL_ (l.map V.num)=G at *
   have hG49:G 49=0:=by rw[← hGd];rfl
   repeat(first|apply wG|(apply wR;simp -dsimp)|refine aI ?_)
   have key:(∃ E,(ents (G 3) (G 49)=some E∧clos (G 3)=none∨ents (G 3) (G 49)=none∧E=[])∧ig_ (l.map V.num)=E∧E.length≤8∧E.all cY_=true) ∨
     ∃ E T q off,ents (G 3) (G 49)=some E∧clos (G 3)=some (T,q,off)∧ig_ (l.map V.num)=E∧E.length≤8∧E.all cY_=true:=by
    rw[ig_,hGd,hG49]
    cases hE:ents (G 3) 0 with
    | none=>exact .inl ⟨[],.inr ⟨rfl,rfl⟩,rfl,by simp,rfl⟩
    | some E =>
     cases hc:clos (G 3) with
     | none=>exact .inl ⟨E,.inl ⟨rfl,rfl⟩,rfl,cX_ hE,cb_ hE⟩
     | some p =>
      obtain⟨T,q,off⟩:=p
      exact .inr ⟨E,T,q,off,rfl,rfl,rfl,cX_ hE,cb_ hE⟩
   rcases key with⟨E,hE,hcE,hl8,hEok⟩|⟨E,T,q,off,hE,hc,hcE,hl8,hEok⟩
   obtain⟨fv,hfv,h38⟩:=zh_ G 0 hE
   refine vcStop.call bg_ (h38) (rl [(1000,2),(1001,9),(0,701)]) rfl rfl (by simp[hfv,BoxLeq]) (af_ (by simp[hfv,BoxLeq]) rfl (by first|rfl|(simp[hfv,BoxLeq];done)) (by simp[hfv,BoxLeq]) (by simp[hfv,BoxLeq])) (fun _ h=>h.elim) (fun ⟨_,h⟩=>h.elim) (fun ⟨_,h⟩=>h.elim) (by simp[hfv,BoxLeq]) ?_
   simp -dsimp
   repeat(first|apply wG|(apply wR;simp -dsimp[hfv])|refine aI ?_)
   clear hE h38
   rotate_left
   have h38:=sh_ G 0 hE hc
   refine vcStop.call bg_ (h38) (rl [(1000,2),(1001,9),(0,701),(1,702)]) rfl rfl (by simp[BoxLeq]) (af_ (by simp[BoxLeq]) rfl (by first|rfl|(simp[BoxLeq];done)) (by simp[BoxLeq]) (by simp[BoxLeq])) (fun _ h=>h.elim) (fun ⟨_,h⟩=>h.elim) (fun ⟨_,h⟩=>h.elim) (by simp[BoxLeq]) ?_
   simp -dsimp
   repeat(first|apply wG|(apply wR;simp -dsimp)|refine aI ?_)
   clear hc h38 hE
   all_goals
    have hcand:fM_ (l.map V.num)=fup (rdE (l.map V.num) E 4 (G,0)).1 54 (if (rdE (l.map V.num) E 4 (G,0)).2=1 then 1 else 0):=by rw[fM_,hcE,hGd]
    refine ai_ (fun m S=>∃ A1 A2,E=A1++A2∧m=A2.length∧S=sD2 bs k n s l E A1) E.length (S0:=sD2 bs k n s l E [])
     (ae_ [10,26,702] (by simp[sD2]) (by simp[sD2,rdE,hGd,bm_])) ⟨[],E,rfl,rfl,rfl⟩ ?_
    rintro _ _ ⟨A1,A2,hA12,rfl,rfl⟩
    have hll:E.length=A1.length+A2.length:=by rw[← List.length_append,← hA12]
    simp -dsimp[sD2,hGd]
    repeat(first|apply wG|(apply wR;simp -dsimp)|refine aI ?_)
    cases A2 with
    | cons e A2 =>
     have e1:IntKind.i64.wrap ((A1.length:Int)+1)=(A1.length:Int)+1:=IntWalk.i64_in _ (by simp at hll;omega)
     rw[List.length_cons] at hll
     have e5:4+(A1.length+1)=4+A1.length+1:=rfl
     have h1:=kz_ 2 9 A1 e A2
     rw[← hA12] at h1
     have he:cY_ e=true:=by rw[hA12,List.all_append,List.all_cons] at hEok;simp only[Bool.and_eq_true] at hEok;exact hEok.2.1
     refine cT (by simp at hll ⊢;omega) ?_
     refine WP.skip ?_
     simp -dsimp
     refine WP.seq (WP.block ?_)
     obtain⟨o,lo,hi⟩:=e
     cases o with
     | some o =>
      have ho:o<57∧o≠54:=by simpa [cY_] using he
      simp only[locA] at h1
      repeat(first|apply wG|(apply wR;simp -dsimp[h1])|refine aI ?_)
      refine vcStop.call dy_ (nD_ k n s l (4+A1.length) (by omega)) (rl [(1000,5),(1001,4)]) rfl rfl (by simp[BoxLeq]) (af_ (by simp[BoxLeq]) rfl (by first|rfl|(simp[BoxLeq];done)) (by simp[BoxLeq]) (by simp[BoxLeq])) (fun _ h=>h.elim) (fun ⟨_,h⟩=>h.elim) (fun ⟨_,h⟩=>h.elim) (by simp[BoxLeq]) ?_
      simp -dsimp
      repeat(first|apply wG|(apply wR;simp -dsimp[ho.1,ho.2])|refine aI ?_)
      refine loopW.next (sD2 bs k n s l E (A1++[(some o,lo,hi)])) (ae_ [13] (by simp[sD2,e1]) (by simp[sD2,rdE_snoc,nthL_eq,hGd,e5])) A2.length (by simp) ⟨A1++[(some o,lo,hi)],A2,by simp[hA12],rfl,rfl⟩
     | none =>
      simp only[locA] at h1
      repeat(first|apply wG|(apply wR;simp -dsimp[h1])|refine aI ?_)
      refine vcStop.call dy_ (nD_ k n s l (4+A1.length) (by omega)) (rl [(1000,5),(1001,4)]) rfl rfl (by simp[BoxLeq]) (af_ (by simp[BoxLeq]) rfl (by first|rfl|(simp[BoxLeq];done)) (by simp[BoxLeq]) (by simp[BoxLeq])) (fun _ h=>h.elim) (fun ⟨_,h⟩=>h.elim) (fun ⟨_,h⟩=>h.elim) (by simp[BoxLeq]) ?_
      simp -dsimp
      repeat(first|apply wG|(apply wR;simp -dsimp)|refine aI ?_)
      refine loopW.next (sD2 bs k n s l E (A1++[(none,lo,hi)])) (ae_ [13] (by simp[sD2,e1]) (by simp[sD2,rdE_snocN,nthL_eq,hGd,e5])) A2.length (by simp) ⟨A1++[(none,lo,hi)],A2,by simp[hA12],rfl,rfl⟩
    | nil =>
     simp only[List.append_nil] at hA12
     subst hA12
     have hdl:∀ g b e,g=fM_ (l.map V.num)→encR g=(b,e)→yw_ bs (l.map V.num)=if e=0∧bs=b then (g,0) else (f0,120):=fun g b e hg he=>by
      rw[yw_,← hg,he]
      by_cases h1:e=0∧bs=b
      ·rw[if_pos h1,if_pos (by rw[h1.1,h1.2])]
      ·rw[if_neg h1,if_neg (fun h2=>h1 ⟨(Prod.mk.inj h2).2,((Prod.mk.inj h2).1).symm⟩)]
     have hd:=hdl _ (encR (fM_ (l.map V.num))).1 (encR (fM_ (l.map V.num))).2 rfl rfl
     clear hdl
     rw[hd]
     rw[hcand] at h17 hg ⊢
     clear hd hcand
     generalize rdE (l.map V.num) E 4 (G,0)=Q at *
     generalize hg2:fup Q.1 54 (if Q.2=1 then 1 else 0)=g at *
     generalize encR g=R at *
     obtain⟨c,e⟩:=R
     simp only at h17 ⊢
     refine cF (by simp) ?_
     refine WP.exit ?_
     simp -dsimp
     repeat(first|apply wG|(apply wR;simp -dsimp[hg2])|refine aI ?_)
     refine ab_ cn_ h17 rfl rfl (by simp[fD]) ?_
     simp -dsimp
     repeat(first|apply wG|(apply wR;simp -dsimp)|refine aI ?_)
     refine aj_ ev_ (fun _=>c1_ bs c) rfl (fun _=>rfl) (fun _=>by simp) ?_
     simp -dsimp
     refine WP.cond (b := !decide (e=0∧bs=c)) (by simp) (fun hb=>?_) (fun hb=>?_)
     ·have hb:¬ (e=0∧bs=c):=by simpa only[Bool.not_eq_true',decide_eq_false_iff_not] using hb
      rw[if_neg hb]
      repeat(first|apply wG|(apply wR;simp -dsimp[d3_])|refine aI ?_)
      refine WP.ret (ac_ ?_)
      simp -dsimp[fD]
     ·have hb:e=0∧bs=c:=by simpa using hb
      rw[if_pos hb]
      refine WP.skip ?_
      simp -dsimp
      repeat(first|apply wG|(apply wR;simp -dsimp)|refine aI ?_)
      refine WP.ret (ac_ ?_)
      simp -dsimp[fD]
 ·cases hbad
  simp only[V.items,show ¬ (20:Int)=0 by decide,if_false]
  refine ad_ (pn:=ap_) aa_ Tryz.func118 rfl fun β0=>?_
  simp only[Tryz.f118]
  repeat(first|apply wG|(apply wR;simp -dsimp[d3_])|refine aI ?_)
  refine ab_ ge_ h18 rfl rfl (by simp) ?_
  simp -dsimp[V.d,V.cells]
  repeat(first|apply wG|(apply wR;simp -dsimp)|refine aI ?_)
  refine cT (by simp) ?_
  repeat(first|apply wG|(apply wR;simp -dsimp)|refine aI ?_)
  refine WP.ret (ac_ ?_)
  simp -dsimp[fD]
structure Cmp {α:Type} (c:α→α→Int):Prop where
 val:∀ a b,c a b=-1∨c a b=0∨c a b=1
 anti:∀ a b,c b a = - c a b
 trans:∀ a b d,c a b≤0→c b d≤0→c a d≤0
 same:∀ a b d,c a b=0→c a d=c b d
theorem Cmp.lex {α:Type} {c e:α→α→Int} (h:Cmp c) (k:Cmp e):Cmp fun a b=>if c a b=0 then e a b else c a b where
 val a b:=by
  split
  ·exact k.val a b
  ·exact h.val a b
 anti a b:=by
  have:=h.anti a b
  by_cases h0:c a b=0
  ·have h1:c b a=0:=by omega
   rw[if_pos h0,if_pos h1]
   exact k.anti a b
  ·have h1:¬ c b a=0:=by omega
   rw[if_neg h0,if_neg h1]
   exact this
 trans a b d hab hbd:=by
  by_cases h0:c a b=0
  ·rw[if_pos h0] at hab
   rw[h.same a b d h0]
   by_cases h1:c b d=0
   ·rw[if_pos h1] at hbd
    rw[if_pos h1]
    exact k.trans a b d hab hbd
   ·rw[if_neg h1] at hbd
    rw[if_neg h1]
    exact hbd
  ·rw[if_neg h0] at hab
   by_cases h1:c b d=0
   ·have h2:c d b=0:=by have:=h.anti b d;omega
    have h3:=h.same d b a h2
    have h4:=h.anti a d
    have h5:=h.anti a b
    have h6:c a d=c a b:=by omega
    rw[h6,if_neg h0]
    exact hab
   ·rw[if_neg h1] at hbd
    have h2:=h.trans a b d hab hbd
    have h3:¬ c a d=0:=fun h3=>by
     have h4:c d a=0:=by have:=h.anti a d;omega
     have h5:=h.same d a b h4
     have h6:=h.anti b d
     have h7:=h.val a b
     have h8:=h.val b d
     omega
    rw[if_neg h3]
    exact h2
 same a b d hab:=by
  by_cases h0:c a b=0
  ·rw[if_pos h0] at hab
   rw[h.same a b d h0,k.same a b d hab]
  ·rw[if_neg h0] at hab
   exact absurd hab h0
theorem Cmp.on {α β:Type} {c:β→β→Int} (h:Cmp c) (p:α→β):Cmp fun a b=>c (p a) (p b) :=
 ⟨fun _ _=>h.val _ _,fun _ _=>h.anti _ _,fun _ _ _=>h.trans _ _ _,fun _ _ _=>h.same _ _ _⟩
theorem cmp_int:Cmp d2_ where
 val a b:=by unfold d2_;split<;>(try split)<;>simp
 anti a b:=by unfold d2_;split<;>split<;>(try split)<;>omega
 trans a b d:=by unfold d2_;intro h1 h2;split at h1<;>split at h2<;>(try split at h1)<;>(try split at h2)<;>split<;>(try split)<;>omega
 same a b d:=by unfold d2_;intro h1;split at h1<;>(try split at h1)<;>first|omega|(rw[show a=b by omega];done)
theorem tu_:∀ a b:List UInt8,Lib.compareBytes b a = - Lib.compareBytes a b
 | [],[]=>rfl
 | [],_::_=>rfl
 | _::_,[]=>rfl
 | x::a,y::b=>by
  rw[Lib.compareBytes,Lib.compareBytes,tu_ a b]
  by_cases h1:x<y
  ·have h2:¬ y<x:=fun h2=>absurd (UInt8.lt_trans h1 h2) (UInt8.lt_irrefl _)
   simp[h1,h2]
  ·by_cases h2:y<x<;>simp[h1,h2]
theorem pH_:∀ a b d:List UInt8,Lib.compareBytes a b≤0→Lib.compareBytes b d≤0→Lib.compareBytes a d≤0
 | [],_,[],_,_=>by simp[Lib.compareBytes]
 | [],_,_::_,_,_=>by simp[Lib.compareBytes]
 | _::_,[],_,h,_=>by simp[Lib.compareBytes] at h
 | _::_,_::_,[],_,h=>by simp[Lib.compareBytes] at h
 | x::a,y::b,z::d,h1,h2=>by
  rw[Lib.compareBytes] at h1 h2 ⊢
  have ih:=pH_ a b d
  have tr:=fun (p:x<y) (q:y<z)=>UInt8.lt_trans p q
  by_cases xy:x<y
  ·by_cases yz:y<z
   ·simp[tr xy yz]
   ·by_cases zy:z<y
    ·simp[yz,zy] at h2
    ·have e:y=z:=UInt8.le_antisymm (UInt8.not_lt.1 zy) (UInt8.not_lt.1 yz)
     subst e
     simp[xy]
  ·by_cases yx:y<x
   ·simp[xy,yx] at h1
   ·have e:x=y:=UInt8.le_antisymm (UInt8.not_lt.1 yx) (UInt8.not_lt.1 xy)
    subst e
    simp only[xy,if_false] at h1
    by_cases yz:x<z
    ·simp[yz]
    ·by_cases zy:z<x
     ·simp[yz,zy] at h2
     ·simp only[yz,zy,if_false] at h2 ⊢
      exact ih h1 h2
theorem cmp_bytes:Cmp Lib.compareBytes:=⟨wp_,tu_,pH_,fun a b d h=>by rw[(x5_ a b).1 h]⟩
theorem cmp_fact:Cmp er_:=by
 have h:=((cmp_int.on fun f:Nat→Int=>f 2).lex (((cmp_int.on fun f:Nat→Int=>f 0).lex ((cmp_int.on fun f:Nat→Int=>f 1).lex (cmp_bytes.on fun f:Nat→Int=>(encR f).1)))))
 have e:er_=fun f g=>if d2_ (f 2) (g 2)=0 then (if d2_ (f 0) (g 0)=0 then (if d2_ (f 1) (g 1)=0 then Lib.compareBytes (encR f).1 (encR g).1 else d2_ (f 1) (g 1)) else d2_ (f 0) (g 0)) else d2_ (f 2) (g 2):=by
  funext f g
  unfold er_ kp_ orL
  by_cases h2:d2_ (f 2) (g 2)=0
  ·simp only[h2,if_true]
   by_cases h0:d2_ (f 0) (g 0)=0
   ·simp only[orL,h0,if_true]
    by_cases h1:d2_ (f 1) (g 1)=0
    ·simp[h1]
    ·simp[h1]
   ·simp[orL,h0]
  ·simp[h2]
 rw[e]
 exact h
theorem xR_ {f g:Nat→Int} (hf:fOk f) (hg:fOk g) (vf:(numF f).2=true) (vg:(numF g).2=true) (h:(encR f).1=(encR g).1):f=g:=by
 rw[encR,encR,if_pos vf,if_pos vg] at h
 simp only at h
 have hf1:=(fy_ hf)
 have hg1:=(fy_ hg)
 have a:=cU_ hf1.1 (by omega)
 have b:=cU_ hg1.1 (by omega)
 unfold encF at h
 have ra:=pU_ (cj_ (numF f).1) 16 [] (hi_ a.1) a.2.1 (by omega) (by omega)
 have rb:=pU_ (cj_ (numF g).1) 16 [] (hi_ b.1) b.2.1 (by omega) (by omega)
 rw[h,rb] at ra
 simp only[Option.some.injEq,Prod.mk.injEq,and_true] at ra
 have hn:(numF g).1=(numF f).1:=by
  have:=congrArg (fun v=>(V.items v).map V.num) ra
  simpa [cj_,V.items,sH_,V.num,Function.comp_def] using this
 rw[← kK_ vf hf,← kK_ vg hg,hn]
theorem pF_ {f g:Nat→Int} (hf:fOk f) (hg:fOk g) (vf:(numF f).2=true) (vg:(numF g).2=true):er_ f g=0↔f=g:=by
 constructor
 ·intro h
  unfold er_ at h
  split at h
  ·exact xR_ hf hg vf vg ((x5_ _ _).1 h)
  ·rename_i h';exact absurd h h'
 ·rintro rfl
  have:=cmp_fact.anti f f
  omega
end Go.Proofs.YtfgcgagcpnbgmaaGreatDoor
