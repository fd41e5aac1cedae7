/-
  Joined texts.
-/
import Derived.Test.YtdjkbdhdejlakaaGreatDoorVH
set_option linter.unusedVariables false
set_option linter.unusedSimpArgs false
set_option linter.unusedSectionVars false
namespace Go.Proofs.YtdjkbdhdejlakaaGreatDoor
open Go.Xe Go.RowKit
abbrev F:=Nat→Int
def fsC (l:List F):List D:=l.flatMap fun f=>fcs f 0 57
@[simp] theorem D0_:fsC []=[]:=rfl
theorem fsC_cons (f:F) (l:List F):fsC (f::l)=fcs f 0 57++fsC l:=by simp[fsC]
theorem fsC_append (a b:List F):fsC (a++b)=fsC a++fsC b:=by simp[fsC]
theorem ax_ (f:F):(fcs f 0 57).length=57:=by simp[fcs]
theorem ij_:∀ l:List F,(fsC l).length=l.length*57
 | []=>rfl
 | f::l=>by rw[fsC_cons,List.length_append,ax_,ij_ l,List.length_cons];omega
theorem qi_:∀ (l:List F) (i:Nat),(fsC l).drop (i*57)=fsC (l.drop i)
 | l,0=>by simp
 | [],i+1=>by simp
 | f::l,i+1=>by
  rw[fsC_cons,List.drop_append,List.drop_of_length_le (by rw[ax_];omega),ax_,List.nil_append,show (i+1)*57-57=i*57 by omega,qi_ l i,List.drop_succ_cons]
def fat (l:List F) (i:Nat):F:=l.getD i f0
theorem n9_ {l:List F} {i:Nat} (h:i<l.length):l.getD i f0=l[i]:=by simp[List.getD_eq_getElem?_getD,h]
theorem mu_ {l:List F} {i:Nat} (h:i<l.length):fat l i∈l:=by
 rw[fat,n9_ h];exact List.getElem_mem h
theorem v1_ {l:List F} {i:Nat} (h:i<l.length):l.drop i=fat l i::l.drop (i+1):=by
 rw[fat,n9_ h];exact List.drop_eq_getElem_cons h
theorem df_ {l:List F} {i:Nat} (h:i<l.length):l.take (i+1)=l.take i++[fat l i]:=by
 rw[fat,n9_ h,List.take_add_one,List.getElem?_eq_getElem h];rfl
theorem qj_ {l:List F} {i:Nat} (h:i<l.length):((fsC l).drop (i*57)).take 57=fcs (fat l i) 0 57:=by
 rw[qi_,v1_ h,fsC_cons,List.take_append,ax_,Nat.sub_self,List.take_zero,List.append_nil,List.take_of_length_le (by rw[ax_];omega)]
theorem co_:∀ (xs cs:List AV) (off:Nat),off+xs.length≤cs.length→setL cs off xs=cs.take off++xs++cs.drop (off+xs.length)
 | [],cs,off,_=>by simp[setL]
 | x::xs,cs,off,h=>by
  simp only[List.length_cons] at h
  rw[setL,co_ xs (cs.set off x) (off+1) (by simp;omega)]
  have ho:off<cs.length:=by omega
  rw[List.set_eq_take_append_cons_drop,if_pos ho]
  have hl:(cs.take off).length=off:=by simp;omega
  have e1:(cs.take off++x::cs.drop (off+1)).take (off+1)=cs.take off++[x]:=by
   rw[List.take_append,hl,List.take_of_length_le (by omega),show off+1-off=1 by omega];rfl
  have e2:(cs.take off++x::cs.drop (off+1)).drop (off+1+xs.length)=cs.drop (off+(xs.length+1)):=by
   rw[List.drop_append,hl,List.drop_of_length_le (by omega),List.nil_append,show off+1+xs.length-off=xs.length+1 by omega,List.drop_succ_cons,List.drop_drop]
   congr 1;omega
  rw[e1,e2]
  simp
/-! ### each once: what is not as the one ahead of it -/
def cA_ (f:F):Int×Int:=(f 0,f 1)
abbrev R2:=Int×Int
def ltR (a b:R2):Prop:=a.1<b.1∨(a.1=b.1∧a.2<b.2)
instance (a b:R2):Decidable (ltR a b):=inferInstanceAs (Decidable (_∨_))
theorem td_ {a b:R2} (h:ltR a b):¬ ltR b a:=by unfold ltR at *;omega
theorem ltR_irr (a:R2):¬ ltR a a:=by unfold ltR;omega
theorem ltR_tri (a b:R2):ltR a b∨a=b∨ltR b a:=by
 by_cases h1:a.1=b.1
 ·by_cases h2:a.2=b.2
  ·exact .inr (.inl (Prod.ext h1 h2))
  ·unfold ltR;omega
 ·unfold ltR;omega
theorem h8_ {a b c:R2} (h:ltR a b) (k:ltR b c):ltR a c:=by unfold ltR at *;omega
abbrev hc_ (l:List R2):Prop:=l.Pairwise ltR
theorem l4_:∀ {A B:List R2},hc_ A→hc_ B→(∀ x,x∈A↔x∈B)→A=B
 | [],[],_,_,_=>rfl
 | [],b::B,_,_,h=>absurd ((h b).2 (by simp)) (by simp)
 | a::A,[],_,_,h=>absurd ((h a).1 (by simp)) (by simp)
 | a::A,b::B,ha,hb,h=>by
  obtain⟨ha1,ha2⟩:=List.pairwise_cons.1 ha
  obtain⟨hb1,hb2⟩:=List.pairwise_cons.1 hb
  have e:a=b:=by
   rcases List.mem_cons.1 ((h a).1 (by simp)) with e|h1
   ·exact e
   ·rcases List.mem_cons.1 ((h b).2 (by simp)) with e|h2
    ·exact e.symm
    ·exact absurd (ha1 b h2) (td_ (hb1 a h1))
  subst e
  rw[l4_ ha2 hb2 fun x=>?_]
  constructor
  ·intro hx
   rcases List.mem_cons.1 ((h x).1 (by simp[hx])) with e|h1
   ·subst e;exact absurd (ha1 x hx) (ltR_irr _)
   ·exact h1
  ·intro hx
   rcases List.mem_cons.1 ((h x).2 (by simp[hx])) with e|h1
   ·subst e;exact absurd (hb1 x hx) (ltR_irr _)
   ·exact h1
def cI_ (r:R2):List R2→List R2
 | []=>[r]
 | s::l=>if ltR s r then s::cI_ r l else if s=r then s::l else r::s::l
theorem insR_in (r:R2):∀ (l:List R2) (x:R2),x∈cI_ r l↔x=r∨x∈l
 | [],x=>by simp[cI_]
 | s::l,x=>by
  rw[cI_]
  split
  ·simp only[List.mem_cons,insR_in r l x]
   constructor
   ·rintro (h|h|h)
    ·exact .inr (.inl h)
    ·exact .inl h
    ·exact .inr (.inr h)
   ·rintro (h|h|h)
    ·exact .inr (.inl h)
    ·exact .inl h
    ·exact .inr (.inr h)
  ·split
   ·rename_i h;subst h;simp
   ·simp
theorem p4_ (r:R2):∀ {l:List R2},hc_ l→hc_ (cI_ r l)
 | [],_=>by simp[cI_]
 | s::l,h=>by
  obtain⟨h1,h2⟩:=List.pairwise_cons.1 h
  rw[cI_]
  split
  ·rename_i hs
   refine List.pairwise_cons.2 ⟨fun x hx=>?_,p4_ r h2⟩
   rcases (insR_in r l x).1 hx with rfl|hx
   ·exact hs
   ·exact h1 x hx
  ·split
   ·exact h
   ·rename_i hs hne
    have hlt:ltR r s:=by
     rcases ltR_tri s r with h|h|h
     ·exact absurd h hs
     ·exact absurd h hne
     ·exact h
    refine List.pairwise_cons.2 ⟨fun x hx=>?_,h⟩
    rcases List.mem_cons.1 hx with rfl|hx
    ·exact hlt
    ·exact h8_ hlt (h1 x hx)
theorem p3_ (r:R2):∀ l:List R2,(cI_ r l).length≤l.length+1
 | []=>by simp[cI_]
 | s::l=>by
  have:=p3_ r l
  rw[cI_]
  split
  ·simp;omega
  ·split<;>simp
def sortR (l:List R2):List R2:=l.foldl (fun a r=>cI_ r a) []
theorem kc_:∀ (l a:List R2),hc_ a→hc_ (l.foldl (fun a r=>cI_ r a) a)∧∀ x,x∈l.foldl (fun a r=>cI_ r a) a↔x∈a∨x∈l
 | [],a,h=>⟨h,fun x=>by simp⟩
 | r::l,a,h=>by
  obtain⟨h1,h2⟩:=kc_ l (cI_ r a) (p4_ r h)
  refine⟨h1,fun x=>?_⟩
  rw[List.foldl_cons,h2,insR_in,List.mem_cons]
  constructor
  ·rintro ((h|h)|h)
   ·exact .inr (.inl h)
   ·exact .inl h
   ·exact .inr (.inr h)
  ·rintro (h|h|h)
   ·exact .inl (.inr h)
   ·exact .inl (.inl h)
   ·exact .inr h
theorem cn_ (l:List R2):hc_ (sortR l):=(kc_ l [] List.Pairwise.nil).1
theorem cE_ (l:List R2) (x:R2):x∈sortR l↔x∈l:=by
 have:=(kc_ l [] List.Pairwise.nil).2 x
 simpa [sortR] using this
theorem py_ {l s:List R2} (h:hc_ s) (hm:∀ x,x∈s↔x∈l):s=sortR l:=l4_ h (cn_ l) fun x=>by rw[hm,cE_]
theorem qW_ (l:List R2) (r:R2):sortR (l++[r])=cI_ r (sortR l):=by rw[sortR,List.foldl_append];rfl
theorem fj_:∀ (l a:List R2),(l.foldl (fun a r=>cI_ r a) a).length≤a.length+l.length
 | [],a=>by simp
 | r::l,a=>by
  have h1:=fj_ l (cI_ r a)
  have h2:=p3_ r a
  rw[List.foldl_cons,List.length_cons];omega
/-! ### what is altered -/
def fG_ (B:List F) (f:F):Bool:=B.any fun g=>eqF g f
theorem b9_ {B:List F} (hB:∀ g∈B,fOk g) {f:F} (hf:fOk f):fG_ B f=true↔f∈B:=by
 rw[fG_,List.any_eq_true]
 constructor
 ·rintro⟨g,hg,h⟩
  rw[← (gn_ (hB g hg) hf).1 h];exact hg
 ·intro h
  exact⟨f,h,(gn_ hf hf).2 rfl⟩
def wj_ (A B:List F):List R2:=(A.filter fun f => !fG_ B f).map cA_
def altL (A B:List F):List R2:=sortR (wj_ A B)
theorem qJ_ {A B:List F} (hA:∀ g∈A,fOk g) (hB:∀ g∈B,fOk g) (r:R2):r∈altL A B↔∃ f∈A,f∉B∧cA_ f=r:=by
 rw[altL,cE_,wj_,List.mem_map]
 constructor
 ·rintro⟨f,hf,e⟩
  obtain⟨h1,h2⟩:=List.mem_filter.1 hf
  refine⟨f,h1,fun h=>?_,e⟩
  rw[(b9_ hB (hA f h1)).2 h] at h2;cases h2
 ·rintro⟨f,hf,hn,e⟩
  refine⟨f,List.mem_filter.2 ⟨hf,?_⟩,e⟩
  rw[Bool.not_eq_true',← Bool.not_eq_true]
  exact fun h=>hn ((b9_ hB (hA f hf)).1 h)
/-! ### what is missing -/
def lastN (c:Int):List F→Int→Int
 | [],n=>n
 | f::l,n=>lastN c l (if f 0=c∧n<f 1 then f 1 else n)
theorem kN_ (c:Int):∀ (l:List F) (n:Int),n≤lastN c l n
 | [],n=>Int.le_refl _
 | f::l,n=>by
  rw[lastN]
  have h1:=kN_ c l (if f 0=c∧n<f 1 then f 1 else n)
  have h2:n≤(if f 0=c∧n<f 1 then f 1 else n):=by split<;>omega
  exact Int.le_trans h2 h1
theorem lastN_at (c:Int):∀ (l:List F) (n:Int),lastN c l n=n∨∃ f∈l,f 0=c∧f 1=lastN c l n
 | [],n=>.inl rfl
 | g::l,n=>by
  rw[lastN]
  rcases lastN_at c l (if g 0=c∧n<g 1 then g 1 else n) with h|⟨f,h1,h2,h3⟩
  ·by_cases hg:g 0=c∧n<g 1
   ·rw[if_pos hg] at h ⊢
    exact .inr ⟨g,by simp,hg.1,h.symm⟩
   ·rw[if_neg hg] at h ⊢
    exact .inl h
  ·exact .inr ⟨f,by simp[h1],h2,h3⟩
def ii_ (L:List R2) (c:Int) (m:Int):Nat→Nat→List R2
 | _,0=>[]
 | n,k+1=>(if ((n:Int)<m∧(c,(n:Int))∉L) then [(c,(n:Int))] else [])++ii_ L c m (n+1) k
theorem ih_ (L:List R2) (c m:Int) (r:R2):∀ (n k:Nat),r∈ii_ L c m n k↔r.1=c∧(n:Int)≤r.2∧r.2<(n:Int)+k∧r.2<m∧r∉L
 | n,0=>by
  simp only[ii_,List.not_mem_nil,false_iff]
  rintro⟨_,h1,h2,_⟩
  omega
 | n,k+1=>by
  rw[ii_,List.mem_append,ih_ L c m r (n+1) k]
  constructor
  ·rintro (h|⟨h1,h2,h3,h4,h5⟩)
   ·split at h
    ·rename_i hc
     rw[List.mem_singleton] at h
     subst h
     exact⟨rfl,Int.le_refl _,by simp;omega,hc.1,hc.2⟩
    ·cases h
   ·exact⟨h1,by omega,by omega,h4,h5⟩
  ·rintro⟨h1,h2,h3,h4,h5⟩
   by_cases he:r.2=n
   ·left
    have e:r=(c,(n:Int)):=Prod.ext h1 he
    rw[if_pos ⟨by omega,by rw[← e];exact h5⟩,e]
    simp
   ·exact .inr ⟨h1,by omega,by omega,h4,h5⟩
theorem qg_ (L:List R2) (c m:Int):∀ (n k:Nat),hc_ (ii_ L c m n k)
 | n,0=>List.Pairwise.nil
 | n,k+1=>by
  rw[ii_]
  refine List.pairwise_append.2 ⟨by split<;>simp,qg_ L c m (n+1) k,fun a ha b hb=>?_⟩
  split at ha
  ·rw[List.mem_singleton] at ha
   obtain⟨h1,h2,_⟩:=(ih_ L c m b (n+1) k).1 hb
   subst ha
   exact .inr ⟨h1.symm,by simp at h2 ⊢;omega⟩
  ·cases ha
def gapS (A:List F) (cs:List Int):List R2:=cs.flatMap fun c=>ii_ (A.map cA_) c (lastN c A 0) 1 (lastN c A 0).toNat
theorem kU_ (A:List F) (cs:List Int) (r:R2):r∈gapS A cs↔r.1∈cs∧1≤r.2∧r.2<lastN r.1 A 0∧r∉A.map cA_:=by
 rw[gapS,List.mem_flatMap]
 constructor
 ·rintro⟨c,hc,h⟩
  obtain⟨rfl,h2,h3,h4,h5⟩:=(ih_ _ _ _ r 1 _).1 h
  exact⟨hc,by omega,h4,h5⟩
 ·rintro⟨h1,h2,h3,h4⟩
  exact⟨r.1,h1,(ih_ _ _ _ r 1 _).2 ⟨rfl,by omega,by omega,h3,h4⟩⟩
theorem kV_ (A:List F):∀ {cs:List Int},cs.Pairwise (fun a b=>a<b)→hc_ (gapS A cs)
 | [],_=>List.Pairwise.nil
 | c::cs,h=>by
  obtain⟨h1,h2⟩:=List.pairwise_cons.1 h
  have e:gapS A (c::cs)=ii_ (A.map cA_) c (lastN c A 0) 1 (lastN c A 0).toNat++gapS A cs:=rfl
  rw[e]
  refine List.pairwise_append.2 ⟨qg_ _ _ _ _ _,kV_ A h2,fun a ha b hb=>?_⟩
  have ha1:=((ih_ _ _ _ a 1 _).1 ha).1
  have hb1:=((kU_ A cs b).1 hb).1
  exact .inl (by rw[ha1];exact h1 b.1 hb1)
theorem vs_ {A:List F} {c:Int} (h:0<lastN c A 0):∃ f∈A,f 0=c∧f 1=lastN c A 0:=by
 rcases lastN_at c A 0 with h'|h'
 ·omega
 ·exact h'
theorem yk_ {A:List F} {cs cs':List Int} (h:cs.Pairwise (fun a b=>a<b)) (h':cs'.Pairwise (fun a b=>a<b)) (hc:∀ f∈A,f 0∈cs) (hc':∀ f∈A,f 0∈cs'):gapS A cs=gapS A cs' :=
 l4_ (kV_ A h) (kV_ A h') fun r=>by
  rw[kU_,kU_]
  have key:1≤r.2→r.2<lastN r.1 A 0→r.1∈cs∧r.1∈cs':=fun h1 h2=>by
   obtain⟨f,hf,hf0,_⟩:=vs_ (A:=A) (c:=r.1) (by omega)
   exact⟨hf0▸hc f hf,hf0▸hc' f hf⟩
  constructor
  ·rintro⟨_,h2,h3,h4⟩;exact⟨(key h2 h3).2,h2,h3,h4⟩
  ·rintro⟨_,h2,h3,h4⟩;exact⟨(key h2 h3).1,h2,h3,h4⟩
end Go.Proofs.YtdjkbdhdejlakaaGreatDoor
