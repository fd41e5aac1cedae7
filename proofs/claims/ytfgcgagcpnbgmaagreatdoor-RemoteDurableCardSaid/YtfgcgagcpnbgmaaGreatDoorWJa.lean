/-
  Joined texts.
-/
import Derived.Test.YtfgcgagcpnbgmaaGreatDoorWKp
set_option linter.unusedVariables false
set_option linter.unusedSimpArgs false
set_option linter.unusedSectionVars false
namespace Go.Proofs.YtfgcgagcpnbgmaaGreatDoor
open Go.Xe Go.RowKit
def Ec_ (f:F):Int×Int:=(f 0,f 1)
end Go.Proofs.YtfgcgagcpnbgmaaGreatDoor
set_option linter.unusedVariables false
set_option linter.unusedSimpArgs false
set_option linter.unusedSectionVars false
namespace Go.Proofs.YtfgcgagcpnbgmaaGreatDoor
open Go.Xe Go.RowKit
abbrev R2:=Int×Int
def ltR (a b:R2):Prop:=a.1<b.1∨(a.1=b.1∧a.2<b.2)
instance (a b:R2):Decidable (ltR a b):=inferInstanceAs (Decidable (_∨_))
theorem xn_ {a b:R2} (h:ltR a b):¬ ltR b a:=by unfold ltR at *;omega
theorem nE_ (a:R2):¬ ltR a a:=by unfold ltR;omega
theorem ltR_tri (a b:R2):ltR a b∨a=b∨ltR b a:=by
 by_cases h1:a.1=b.1
 ·by_cases h2:a.2=b.2
  ·exact .inr (.inl (Prod.ext h1 h2))
  ·unfold ltR;omega
 ·unfold ltR;omega
theorem lu_ {a b c:R2} (h:ltR a b) (k:ltR b c):ltR a c:=by unfold ltR at *;omega
abbrev mT_ (l:List R2):Prop:=l.Pairwise ltR
theorem r4_:∀ {A B:List R2},mT_ A→mT_ B→(∀ x,x∈A↔x∈B)→A=B
 | [],[],_,_,_=>rfl
 | [],b::B,_,_,h=>absurd ((h b).2 (by simp)) (by simp)
 | a::A,[],_,_,h=>absurd ((h a).1 (by simp)) (by simp)
 | a::A,b::B,ha,hb,h=>by
  obtain⟨ha1,ha2⟩:=List.pairwise_cons.1 ha
  obtain⟨hb1,hb2⟩:=List.pairwise_cons.1 hb
  have e:a=b:=by
   rcases List.mem_cons.1 ((h a).1 (by simp)) with e|h1
   ·exact e
   ·rcases List.mem_cons.1 ((h b).2 (by simp)) with e|h2
    ·exact e.symm
    ·exact absurd (ha1 b h2) (xn_ (hb1 a h1))
  subst e
  rw[r4_ ha2 hb2 fun x=>?_]
  constructor
  ·intro hx
   rcases List.mem_cons.1 ((h x).1 (by simp[hx])) with e|h1
   ·subst e;exact absurd (ha1 x hx) (nE_ _)
   ·exact h1
  ·intro hx
   rcases List.mem_cons.1 ((h x).2 (by simp[hx])) with e|h1
   ·subst e;exact absurd (hb1 x hx) (nE_ _)
   ·exact h1
def k2_ (r:R2):List R2→List R2
 | []=>[r]
 | s::l=>if ltR s r then s::k2_ r l else if s=r then s::l else r::s::l
theorem insR_in (r:R2):∀ (l:List R2) (x:R2),x∈k2_ r l↔x=r∨x∈l
 | [],x=>by simp[k2_]
 | s::l,x=>by
  rw[k2_]
  split
  ·simp only[List.mem_cons,insR_in r l x]
   constructor
   ·rintro (h|h|h)
    ·exact .inr (.inl h)
    ·exact .inl h
    ·exact .inr (.inr h)
   ·rintro (h|h|h)
    ·exact .inr (.inl h)
    ·exact .inl h
    ·exact .inr (.inr h)
  ·split
   ·rename_i h;subst h;simp
   ·simp
theorem pl_ (r:R2):∀ {l:List R2},mT_ l→mT_ (k2_ r l)
 | [],_=>by simp[k2_]
 | s::l,h=>by
  obtain⟨h1,h2⟩:=List.pairwise_cons.1 h
  rw[k2_]
  split
  ·rename_i hs
   refine List.pairwise_cons.2 ⟨fun x hx=>?_,pl_ r h2⟩
   rcases (insR_in r l x).1 hx with rfl|hx
   ·exact hs
   ·exact h1 x hx
  ·split
   ·exact h
   ·rename_i hs hne
    have hlt:ltR r s:=by
     rcases ltR_tri s r with h|h|h
     ·exact absurd h hs
     ·exact absurd h hne
     ·exact h
    refine List.pairwise_cons.2 ⟨fun x hx=>?_,h⟩
    rcases List.mem_cons.1 hx with rfl|hx
    ·exact hlt
    ·exact lu_ hlt (h1 x hx)
theorem pk_ (r:R2):∀ l:List R2,(k2_ r l).length≤l.length+1
 | []=>by simp[k2_]
 | s::l=>by
  have:=pk_ r l
  rw[k2_]
  split
  ·simp;omega
  ·split<;>simp
def sortR (l:List R2):List R2:=l.foldl (fun a r=>k2_ r a) []
theorem jL_:∀ (l a:List R2),mT_ a→mT_ (l.foldl (fun a r=>k2_ r a) a)∧∀ x,x∈l.foldl (fun a r=>k2_ r a) a↔x∈a∨x∈l
 | [],a,h=>⟨h,fun x=>by simp⟩
 | r::l,a,h=>by
  obtain⟨h1,h2⟩:=jL_ l (k2_ r a) (pl_ r h)
  refine⟨h1,fun x=>?_⟩
  rw[List.foldl_cons,h2,insR_in,List.mem_cons]
  constructor
  ·rintro ((h|h)|h)
   ·exact .inr (.inl h)
   ·exact .inl h
   ·exact .inr (.inr h)
  ·rintro (h|h|h)
   ·exact .inl (.inr h)
   ·exact .inl (.inl h)
   ·exact .inr h
theorem hA_ (l:List R2):mT_ (sortR l):=(jL_ l [] List.Pairwise.nil).1
theorem eJ_ (l:List R2) (x:R2):x∈sortR l↔x∈l:=by
 have:=(jL_ l [] List.Pairwise.nil).2 x
 simpa [sortR] using this
theorem uf_ {l s:List R2} (h:mT_ s) (hm:∀ x,x∈s↔x∈l):s=sortR l:=r4_ h (hA_ l) fun x=>by rw[hm,eJ_]
theorem hz_:∀ (l a:List R2),(l.foldl (fun a r=>k2_ r a) a).length≤a.length+l.length
 | [],a=>by simp
 | r::l,a=>by
  have h1:=hz_ l (k2_ r a)
  have h2:=pk_ r a
  rw[List.foldl_cons,List.length_cons];omega
/-! ### what is altered -/
/-! ### what is missing -/
end Go.Proofs.YtfgcgagcpnbgmaaGreatDoor
