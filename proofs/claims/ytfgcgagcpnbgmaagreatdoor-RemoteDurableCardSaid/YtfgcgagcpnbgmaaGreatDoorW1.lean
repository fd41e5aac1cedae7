/-
  Joined texts.
-/
import Derived.WalkKit
import Derived.WalkSpells
import Derived.WalkLawsBesides
import Derived.Orders
import Derived.TacticsIn
import Derived.OrdersIn
import Derived.MapKept
set_option linter.unusedVariables false
set_option linter.unusedSimpArgs false
set_option linter.unusedSectionVars false
namespace Go.Xe
open Go.RowKit
inductive D where
 | any
 | v (x:Value)
 | agg (cs:List D)
 | tup (cs:List D)
 | sl (sz:Nat) (cs:List D) (n:Nat) (full:Bool)
 | ip (cs:List D)
 deriving Inhabited
mutual
def Den (w:World) (I:Nat→Prop):D→Value→Prop
 | .any,_=>True
 | .v x,y=>y=x
 | .agg cs,y=>∃ vs:List Value,y=.agg vs.toArray∧Dens w I cs vs
 | .tup cs,y=>∃ vs:List Value,y=.tuple vs.toArray∧Dens w I cs vs
 | .sl sz cs n full,y=>∃ a cap,y=.slice a n cap∧n≤cap∧cap≤maxLen∧(full=true→cap=n)∧cs.length=n*sz ∧
   (a=none→n=0∧cap=0)∧∀ ad,a=some ad→(0<n→ad.spot=none)∧DenAt w I cs ad.block ad.off
 | .ip cs,y=>∃ b off,y=.pointer (some ⟨b,off,none⟩)∧DenAt w I cs b off
def Dens (w:World) (I:Nat→Prop):List D→List Value→Prop
 | [],vs=>vs=[]
 | c::cs,vs=>∃ v vs',vs=v::vs'∧Den w I c v∧Dens w I cs vs'
def DenAt (w:World) (I:Nat→Prop):List D→Nat→Nat→Prop
 | [],_,_=>True
 | c::cs,b,off=>(∃ x,I b∧w.cell? ⟨b,off,none⟩=some x∧x.oneCell'=true∧Den w I c x)∧DenAt w I cs b (off+1)
end
structure Kept (w:World) (I:Nat→Prop) (w':World) (I':Nat→Prop):Prop where
 sub:∀ b,I b→I' b
 eq:∀ b,I b→w'.heap[b]? = w.heap[b]?
theorem Kept.refl (w:World) (I:Nat→Prop):Kept w I w I:=⟨fun _ h=>h,fun _ _=>rfl⟩
theorem Kept.trans {w w' w'':World} {I I' I'':Nat→Prop} (h:Kept w I w' I') (k:Kept w' I' w'' I''):Kept w I w'' I'' :=
 ⟨fun b hb=>k.sub b (h.sub b hb),fun b hb=>(k.eq b (h.sub b hb)).trans (h.eq b hb)⟩
theorem kJ_ {w w':World} {b off:Nat} (h:w'.heap[b]? = w.heap[b]?):w'.cell? ⟨b,off,none⟩=w.cell? ⟨b,off,none⟩:=by
 simp[World.cell?,h]
mutual
theorem Den.mono {w w':World} {I I':Nat→Prop} (hk:Kept w I w' I'):∀ (d:D) (y:Value),Den w I d y→Den w' I' d y
 | .any,_,_=>trivial
 | .v _,_,h=>h
 | .agg cs,_,h=>by obtain⟨vs,e,h⟩:=h;exact⟨vs,e,Dens.mono hk cs vs h⟩
 | .tup cs,_,h=>by obtain⟨vs,e,h⟩:=h;exact⟨vs,e,Dens.mono hk cs vs h⟩
 | .sl sz cs n full,_,h=>by
  obtain⟨a,cap,e,h1,h2,h3,h4,h5,h6⟩:=h
  exact⟨a,cap,e,h1,h2,h3,h4,h5,fun ad ha=>⟨(h6 ad ha).1,DenAt.mono hk cs _ _ (h6 ad ha).2⟩⟩
 | .ip cs,_,h=>by
  obtain⟨b,off,e,h⟩:=h
  exact⟨b,off,e,DenAt.mono hk cs _ _ h⟩
theorem Dens.mono {w w':World} {I I':Nat→Prop} (hk:Kept w I w' I'):∀ (cs:List D) (vs:List Value),Dens w I cs vs→Dens w' I' cs vs
 | [],_,h=>h
 | c::cs,_,h=>by
  obtain⟨v,vs',e,h1,h2⟩:=h
  exact⟨v,vs',e,Den.mono hk c v h1,Dens.mono hk cs vs' h2⟩
theorem DenAt.mono {w w':World} {I I':Nat→Prop} (hk:Kept w I w' I'):∀ (cs:List D) (b off:Nat),DenAt w I cs b off→DenAt w' I' cs b off
 | [],_,_,_=>trivial
 | c::cs,b,off,h=>by
  obtain⟨⟨x,hI,hc,ho,hd⟩,h2⟩:=h
  exact⟨⟨x,hk.sub b hI,by rw[kJ_ (hk.eq b hI)];exact hc,ho,Den.mono hk c x hd⟩,DenAt.mono hk cs b (off+1) h2⟩
end
inductive AV where
 | d (x:D)
 | ptr (k off:Nat)
 | agg (cs:List AV)
 | tup (cs:List AV)
 | fn (f:Fn) (first caps:List AV)
 | row (k:Nat)
 | rptr (k off:Nat)
 | psl (k off n cap:Nat)
 | rsl (k off n:Nat)
 | iface (t:TypeId) (x:AV)
 | when (b:Bool) (x:AV)
 deriving Inhabited
def blk:Value→Option Nat
 | .pointer (some a)=>some a.block
 | .slice (some a) _ _=>some a.block
 | .map r=>r
 | _=>none
mutual
def DenA (w:World) (I:Nat→Prop) (β:Nat→Value):AV→Value→Prop
 | .d x,y=>Den w I x y
 | .ptr k off,y=>∃ b,β k=.pointer (some ⟨b,0,none⟩)∧y=.pointer (some ⟨b,off,none⟩)
 | .agg cs,y=>∃ vs:List Value,y=.agg vs.toArray∧DenAs w I β cs vs
 | .tup cs,y=>∃ vs:List Value,y=.tuple vs.toArray∧DenAs w I β cs vs
 | .fn f first caps,y=>∃ v1 v2:List Value,y=.func f v1.toArray v2.toArray∧DenAs w I β first v1∧DenAs w I β caps v2
 | .row k,y=>y=β k∧((∃ a n c,y=.slice a n c)∨∃ r,y=.map r)
 | .rptr k off,y=>∃ b n c,β k=.slice (some ⟨b,0,none⟩) n c∧y=.pointer (some ⟨b,off,none⟩)
 | .psl k off n cap,y=>∃ b,β k=.pointer (some ⟨b,0,none⟩)∧y=.slice (some ⟨b,off,none⟩) n cap
 | .rsl k off n,y=>∃ b m c c',β k=.slice (some ⟨b,0,none⟩) m c∧y=.slice (some ⟨b,off,none⟩) n c'
 | .iface t x,y=>∃ z,y=.iface t z∧DenA w I β x z
 | .when b x,y=>(b=true→DenA w I β x y)∧(b=false→y=undef)
def DenAs (w:World) (I:Nat→Prop) (β:Nat→Value):List AV→List Value→Prop
 | [],vs=>vs=[]
 | c::cs,vs=>∃ v vs',vs=v::vs'∧DenA w I β c v∧DenAs w I β cs vs'
end
mutual
def AV.has (k:Nat):AV→Bool
 | .d _=>false
 | .ptr j _=>j == k
 | .agg cs=>ah_ k cs
 | .tup cs=>ah_ k cs
 | .fn _ first caps=>ah_ k first||ah_ k caps
 | .row j=>j == k
 | .rptr j _=>j == k
 | .psl j _ _ _=>j == k
 | .rsl j _ _=>j == k
 | .iface _ x=>AV.has k x
 | .when _ x=>AV.has k x
def ah_ (k:Nat):List AV→Bool
 | []=>false
 | c::cs=>AV.has k c||ah_ k cs
end
mutual
theorem DenA.mono {w w':World} {I I':Nat→Prop} {β β':Nat→Value} (hk:Kept w I w' I'):∀ (x:AV) (y:Value),(∀ k,AV.has k x=true→β' k=β k)→DenA w I β x y→DenA w' I' β' x y
 | .d x,y,_,h=>Den.mono hk x y h
 | .ptr k off,_,hb,h=>by obtain⟨b,h1,h2⟩:=h;exact⟨b,by rw[hb k (by simp[AV.has])];exact h1,h2⟩
 | .agg cs,_,hb,h=>by obtain⟨vs,e,h⟩:=h;exact⟨vs,e,DenAs.mono hk cs vs (fun k hh=>hb k (by simpa [AV.has] using hh)) h⟩
 | .tup cs,_,hb,h=>by obtain⟨vs,e,h⟩:=h;exact⟨vs,e,DenAs.mono hk cs vs (fun k hh=>hb k (by simpa [AV.has] using hh)) h⟩
 | .fn f first caps,_,hb,h=>by
  obtain⟨v1,v2,e,h1,h2⟩:=h
  exact⟨v1,v2,e,DenAs.mono hk first v1 (fun k hh=>hb k (by simp[AV.has,hh])) h1,DenAs.mono hk caps v2 (fun k hh=>hb k (by simp[AV.has,hh])) h2⟩
 | .row k,_,hb,h=>by rw[DenA] at h ⊢;rw[hb k (by simp[AV.has])];exact h
 | .rptr k off,_,hb,h=>by obtain⟨b,n,c,h1,h2⟩:=h;exact⟨b,n,c,by rw[hb k (by simp[AV.has])];exact h1,h2⟩
 | .psl k off n cap,_,hb,h=>by obtain⟨b,h1,h2⟩:=h;exact⟨b,by rw[hb k (by simp[AV.has])];exact h1,h2⟩
 | .rsl k off n,_,hb,h=>by obtain⟨b,m,c,c',h1,h2⟩:=h;exact⟨b,m,c,c',by rw[hb k (by simp[AV.has])];exact h1,h2⟩
 | .iface t x,_,hb,h=>by obtain⟨z,e,h⟩:=h;exact⟨z,e,DenA.mono hk x z (fun k hh=>hb k (by simpa [AV.has] using hh)) h⟩
 | .when b x,y,hb,h=>⟨fun e=>DenA.mono hk x y (fun k hh=>hb k (by simpa [AV.has] using hh)) (h.1 e),h.2⟩
theorem DenAs.mono {w w':World} {I I':Nat→Prop} {β β':Nat→Value} (hk:Kept w I w' I'):∀ (cs:List AV) (vs:List Value),(∀ k,ah_ k cs=true→β' k=β k)→DenAs w I β cs vs→DenAs w' I' β' cs vs
 | [],_,_,h=>h
 | c::cs,_,hb,h=>by
  obtain⟨v,vs',e,h1,h2⟩:=h
  exact⟨v,vs',e,DenA.mono hk c v (fun k hh=>hb k (by simp[ah_,hh])) h1,DenAs.mono hk cs vs' (fun k hh=>hb k (by simp[ah_,hh])) h2⟩
end
theorem DenAs.length {w:World} {I:Nat→Prop} {β:Nat→Value}:∀ {cs:List AV} {vs:List Value},DenAs w I β cs vs→cs.length=vs.length
 | [],_,h=>by rw[DenAs] at h;subst h;rfl
 | _::_,_,h=>by obtain⟨v,vs',rfl,_,h2⟩:=h;simp[DenAs.length h2]
theorem DenAs.get {w:World} {I:Nat→Prop} {β:Nat→Value}:∀ {cs:List AV} {vs:List Value} (_:DenAs w I β cs vs) {i:Nat} {x:AV},cs[i]? = some x→∃ y,vs[i]? = some y∧DenA w I β x y
 | [],_,_,_,_,hx=>by simp at hx
 | _::_,_,h,0,_,hx=>by obtain⟨v,vs',rfl,h1,_⟩:=h;simp at hx;subst hx;exact⟨v,rfl,h1⟩
 | _::_,_,h,i+1,_,hx=>by obtain⟨v,vs',rfl,_,h2⟩:=h;simp at hx;simpa using DenAs.get h2 hx
theorem DenAs.set {w:World} {I:Nat→Prop} {β:Nat→Value} {x:AV} {y:Value} (hxy:DenA w I β x y):∀ {cs:List AV} {vs:List Value} (_:DenAs w I β cs vs) (i:Nat),DenAs w I β (cs.set i x) (vs.set i y)
 | [],_,h,_=>by rw[DenAs] at h;subst h;simp[DenAs]
 | _::_,_,h,0=>by obtain⟨v,vs',rfl,_,h2⟩:=h;exact⟨y,vs',rfl,hxy,h2⟩
 | _::_,_,h,i+1=>by obtain⟨v,vs',rfl,h1,h2⟩:=h;exact⟨v,vs'.set i y,rfl,h1,DenAs.set hxy h2 i⟩
theorem DenAs.append {w:World} {I:Nat→Prop} {β:Nat→Value}:∀ {cs cs':List AV} {vs vs':List Value} (_:DenAs w I β cs vs) (_:DenAs w I β cs' vs'),DenAs w I β (cs++cs') (vs++vs')
 | [],_,_,_,h,h'=>by rw[DenAs] at h;subst h;exact h'
 | _::_,_,_,_,h,h'=>by obtain⟨v,vs',rfl,h1,h2⟩:=h;exact⟨v,_,rfl,h1,DenAs.append h2 h'⟩
theorem DenAs.take {w:World} {I:Nat→Prop} {β:Nat→Value}:∀ {cs:List AV} {vs:List Value} (_:DenAs w I β cs vs) (n:Nat),DenAs w I β (cs.take n) (vs.take n)
 | [],_,h,_=>by rw[DenAs] at h;subst h;simp[DenAs]
 | _::_,_,_,0=>by simp[DenAs]
 | _::_,_,h,n+1=>by obtain⟨v,vs',rfl,h1,h2⟩:=h;exact⟨v,_,rfl,h1,DenAs.take h2 n⟩
theorem DenAs.drop {w:World} {I:Nat→Prop} {β:Nat→Value}:∀ {cs:List AV} {vs:List Value} (_:DenAs w I β cs vs) (n:Nat),DenAs w I β (cs.drop n) (vs.drop n)
 | [],_,h,_=>by rw[DenAs] at h;subst h;simp[DenAs]
 | _::_,_,h,0=>by simpa using h
 | _::_,_,h,n+1=>by obtain⟨v,vs',rfl,h1,h2⟩:=h;simpa using DenAs.drop h2 n
theorem DenAs.of_dens {w:World} {I:Nat→Prop} {β:Nat→Value}:∀ {cs:List D} {vs:List Value},Dens w I cs vs→DenAs w I β (cs.map .d) vs
 | [],_,h=>by rw[Dens] at h;subst h;simp[DenAs]
 | _::_,_,h=>by obtain⟨v,vs',rfl,h1,h2⟩:=h;exact⟨v,vs',rfl,h1,DenAs.of_dens h2⟩
theorem DenAs.to_dens {w:World} {I:Nat→Prop} {β:Nat→Value}:∀ {cs:List D} {vs:List Value},DenAs w I β (cs.map .d) vs→Dens w I cs vs
 | [],_,h=>by simpa [DenAs,Dens] using h
 | _::_,_,h=>by obtain⟨v,vs',rfl,h1,h2⟩:=h;exact⟨v,vs',rfl,h1,DenAs.to_dens h2⟩
theorem DenAt.cell {w:World} {I:Nat→Prop}:∀ {cs:List D} {b off:Nat} (_:DenAt w I cs b off) {i:Nat} {c:D},cs[i]? = some c→∃ x,I b∧w.cell? ⟨b,off+i,none⟩=some x∧x.oneCell'=true∧Den w I c x
 | [],_,_,_,_,_,hx=>by simp at hx
 | _::_,_,_,h,0,_,hx=>by simp at hx;subst hx;simpa using h.1
 | _::_,b,off,h,i+1,_,hx=>by
  have:=DenAt.cell h.2 (i:=i) (by simpa using hx)
  rwa[Nat.add_assoc,Nat.add_comm 1 i] at this
theorem DenAt.drop {w:World} {I:Nat→Prop}:∀ {cs:List D} {b off:Nat} (_:DenAt w I cs b off) (n:Nat),DenAt w I (cs.drop n) b (off+n)
 | [],_,_,_,_=>by simp[DenAt]
 | _::_,_,_,h,0=>by simpa using h
 | _::_,b,off,h,n+1=>by
  have:=DenAt.drop h.2 n
  rw[Nat.add_assoc,Nat.add_comm 1 n] at this
  simpa using this
theorem DenAt.take {w:World} {I:Nat→Prop}:∀ {cs:List D} {b off:Nat} (_:DenAt w I cs b off) (n:Nat),DenAt w I (cs.take n) b off
 | [],_,_,_,_=>by simp[DenAt]
 | _::_,_,_,_,0=>by simp[DenAt]
 | _::_,_,_,h,n+1=>⟨h.1,DenAt.take h.2 n⟩
theorem DenAt.append {w:World} {I:Nat→Prop}:∀ {cs cs':List D} {b off:Nat} (_:DenAt w I cs b off) (_:DenAt w I cs' b (off+cs.length)),DenAt w I (cs++cs') b off
 | [],_,_,_,_,h'=>by simpa using h'
 | _::_,_,b,off,h,h'=>⟨h.1,DenAt.append h.2 (by simpa [Nat.add_assoc,Nat.add_comm 1] using h')⟩
theorem DenAt.dens {w:World} {I:Nat→Prop}:∀ {cs:List D} {b off:Nat} (_:DenAt w I cs b off),∃ vs:List Value,Dens w I cs vs∧(∀ v∈vs,v.oneCell'=true)∧∀ j v,vs[j]? = some v→w.cell? ⟨b,off+j,none⟩=some v
 | [],_,_,_=>⟨[],rfl,by simp,by simp⟩
 | _::_,b,off,h=>by
  obtain⟨⟨x,_,hc,ho,hd⟩,h2⟩:=h
  obtain⟨vs,h3,h4,h5⟩:=DenAt.dens h2
  refine⟨x::vs,⟨x,vs,rfl,hd,h3⟩,by simpa using ⟨ho,h4⟩,?_⟩
  intro j v hv
  cases j with
  | zero=>simp at hv;subst hv;simpa using hc
  | succ j=>have:=h5 j v (by simpa using hv);rwa[Nat.add_assoc,Nat.add_comm 1 j] at this
theorem DenAt.of_dens {w:World} {I:Nat→Prop} {b:Nat} (hI:I b):∀ {cs:List D} {vs:List Value} {off:Nat},Dens w I cs vs→(∀ v∈vs,v.oneCell'=true)→(∀ j v,vs[j]? = some v→w.cell? ⟨b,off+j,none⟩=some v)→DenAt w I cs b off
 | [],_,_,_,_,_=>trivial
 | _::_,_,off,h,ho,hc=>by
  obtain⟨v,vs',rfl,h1,h2⟩:=h
  refine⟨⟨v,hI,by simpa using hc 0 v rfl,ho v (by simp),h1⟩,DenAt.of_dens hI h2 (fun u hu=>ho u (by simp[hu])) ?_⟩
  intro j u hu
  have:=hc (j+1) u (by simpa using hu)
  rwa[Nat.add_assoc,Nat.add_comm 1 j]
theorem Dens.length {w:World} {I:Nat→Prop}:∀ {cs:List D} {vs:List Value},Dens w I cs vs→cs.length=vs.length
 | [],_,h=>by rw[Dens] at h;subst h;rfl
 | _::_,_,h=>by obtain⟨v,vs',rfl,_,h2⟩:=h;simp[Dens.length h2]
end Go.Xe
namespace Go.Xe
open Go.RowKit
inductive Box where
 | cells (T:TypeId) (cs:List AV)
 | row (T:TypeId) (sz n:Nat) (cs:List AV)
 | obj (b:Nat) (o:Obj)
 | mp (kvs:List (Value×D))
 | opq (p:Value→World→(Nat→Prop)→Prop)
 deriving Inhabited
def Box.cs:Box→List AV
 | .cells _ cs=>cs
 | .row _ _ _ cs=>cs
 | .obj _ _=>[]
 | .mp _=>[]
 | .opq _=>[]
def Blk (y:Value) (n:Nat):Prop:=blk y=some n∨∃ vs,y=.tuple vs∧∃ v∈vs.toList,blk v=some n
theorem Blk.one {y:Value} {n m:Nat} (h:blk y=some m) (hb:Blk y n):n=m:=by
 rcases hb with hb|⟨vs,rfl,_⟩
 ·rw[h] at hb;cases hb;rfl
 ·cases h
theorem Blk.no {y:Value} {n:Nat} (h:blk y=none) (ht:∀ vs,y ≠ .tuple vs):¬ Blk y n:=by
 rintro (hb|⟨vs,rfl,_⟩)
 ·rw[h] at hb;cases hb
 ·exact ht _ rfl
theorem Blk.plain {y:Value} {n:Nat} (ht:∀ vs,y ≠ .tuple vs) (hb:Blk y n):blk y=some n:=by
 rcases hb with hb|⟨vs,rfl,_⟩
 ·exact hb
 ·exact absurd rfl (ht _)
def BoxRel (w:World) (I:Nat→Prop) (β:Nat→Value) (y:Value):Box→Prop
 | .cells T cs=>∃ b vs,y=.pointer (some ⟨b,0,none⟩)∧w.heap[b]? = some (.cells (List.toArray vs) T (0,0))∧DenAs w I β cs vs∧∀ v∈vs,v.oneCell'=true
 | .row T sz n cs=>∃ vs,w.ownsRow 0 T sz y n vs∧DenAs w I β cs vs∧∀ v∈vs,v.oneCell'=true
 | .obj b o=>y=.pointer (some ⟨b,0,none⟩)∧w.heap[b]? = some o
 | .mp kvs=>∃ b es clock,y=.map (some b)∧w.heap[b]? = some (.map es clock)∧es.toList.map (·.key)=kvs.map (·.1)∧Dens w I (kvs.map (·.2)) (es.toList.map (·.val))∧MapKept.Stamped es clock
 | .opq p=>∃ w1 I1,p y w1 I1∧Kept w1 I1 w I∧∀ n,Blk y n→n<w1.heap.size∧w.heap[n]? = w1.heap[n]?
abbrev Bxs:=List (Nat×Box)
def getB:Bxs→Nat→Option Box
 | [],_=>none
 | (k,b)::r,j=>if k=j then some b else getB r j
def delB:Bxs→Nat→Bxs
 | [],_=>[]
 | (k,b)::r,j=>if k=j then delB r j else (k,b)::delB r j
def setB:Bxs→Nat→Box→Bxs
 | [],j,c=>[(j,c)]
 | (k,b)::r,j,c=>if k=j then (j,c)::delB r j else (k,b)::setB r j c
def dN_ (k:Nat):Bxs→Bool
 | []=>false
 | (j,b)::r=>j == k||ah_ k b.cs||dN_ k r
theorem getB_del:∀ (bx:Bxs) (j k:Nat),getB (delB bx j) k=if j=k then none else getB bx k
 | [],j,k=>by simp[delB,getB]
 | (i,b)::r,j,k=>by
  simp only[delB]
  split
  ·rename_i h;subst h;rw[getB_del r i k];simp only[getB];split<;>rfl
  ·rename_i h;simp only[getB];split
   ·rename_i h2;subst h2;rw[if_neg (fun e=>h e.symm)]
   ·exact getB_del r j k
theorem a9_:∀ (bx:Bxs) (j:Nat) (c:Box) (k:Nat),getB (setB bx j c) k=if j=k then some c else getB bx k
 | [],j,c,k=>by simp[setB,getB]
 | (i,b)::r,j,c,k=>by
  simp only[setB]
  split
  ·rename_i h;subst h;simp only[getB];split
   ·rfl
   ·rw[getB_del];rename_i h;rw[if_neg h]
  ·rename_i h;simp only[getB];split
   ·rename_i h2;subst h2;rw[if_neg (fun e=>h e.symm)]
   ·exact a9_ r j c k
theorem hasB_get:∀ {bx:Bxs} {k:Nat},dN_ k bx=false→getB bx k=none∧∀ j b,getB bx j=some b→ah_ k b.cs=false
 | [],k,_=>by simp[getB]
 | (i,b)::r,k,h=>by
  simp only[dN_,Bool.or_eq_false_iff,beq_eq_false_iff_ne] at h
  obtain⟨h1,h2⟩:=hasB_get h.2
  refine⟨by simp[getB,h.1.1,h1],fun j c hc=>?_⟩
  simp only[getB] at hc
  split at hc
  ·cases hc;exact h.1.2
  ·exact h2 j c hc
structure Gb (w w':World) (r:Option Nat):Prop extends World.grownBy w w' r where
 dr:w.drawn≤w'.drawn
theorem Gb.alloc (w:World) (o:Obj) (r:Option Nat):Gb w (w.alloc o) r:=⟨World.grownBy_alloc w o r,Nat.le_refl _⟩
class Glob where
 laid:Nat→Option (List D)
def Gl [Glob] (w:World) (I:Nat→Prop):Prop:=∀ g ds,Glob.laid g=some ds→Den w I (.ip ds) (.pointer (some ⟨g,0,none⟩))
theorem Gl.mono [Glob] {w w':World} {I I':Nat→Prop} (h:Gl w I) (hk:Kept w I w' I'):Gl w' I':=fun g ds hg=>Den.mono hk _ _ (h g ds hg)
variable [Glob]
structure Mem (w0:World) (I0:Nat→Prop) (F:Nat→Prop) (bx:Bxs) (I:Nat→Prop) (β:Nat→Value) (w:World):Prop where
 bxs:∀ k b,getB bx k=some b→BoxRel w I β (β k) b
 sep:∀ k b n,getB bx k=some b→Blk (β k) n→¬ I n∧(F n∨w0.heap.size≤n)
 inj:∀ k j b c n,getB bx k=some b→getB bx j=some c→Blk (β k) n→Blk (β j) n→k=j
 im:∀ n,I n→n<w.heap.size
 inew:∀ n,I n→I0 n∨F n∨w0.heap.size≤n
 kept:Kept w0 I0 w I
 fr:∀ n,n<w0.heap.size→¬ F n→w.heap[n]? = w0.heap[n]?
 sz:w0.heap.size≤w.heap.size
 os:w.os=w0.os
 tape:w.tape=w0.tape
 out:w.output=w0.output
 dr:w0.drawn≤w.drawn
 gl:Gl w0 I0
theorem Mem.glNow {w0:World} {I0 F:Nat→Prop} {bx:Bxs} {I:Nat→Prop} {β:Nat→Value} {w:World} (h:Mem w0 I0 F bx I β w):Gl w I:=h.gl.mono h.kept
theorem kN_ {w:World} {T:TypeId} {sz n:Nat} {y:Value} {vs:List Value} (h:w.ownsRow 0 T sz y n vs):blk y=y.ownBlock:=by
 rcases h.2 with⟨rfl,_⟩|⟨g,cap,cur,rfl,_⟩<;>rfl
theorem sd_ {w:World} {T:TypeId} {sz n:Nat} {y:Value} {vs:List Value} (h:w.ownsRow 0 T sz y n vs):∀ us,y ≠ .tuple us:=by
 rcases h.2 with⟨rfl,_⟩|⟨g,cap,cur,rfl,_⟩<;>exact fun _ e=>by cases e
def Box.single:Box→Bool
 | .opq _=>false
 | _=>true
theorem BoxRel.plain {w:World} {I:Nat→Prop} {β:Nat→Value} {y:Value} {b:Box} (h:BoxRel w I β y b) (hs:b.single=true):∀ us,y ≠ .tuple us:=by
 cases b with
 | cells T cs=>obtain⟨g,vs,rfl,_⟩:=h;exact fun _ e=>by cases e
 | row T sz m cs=>obtain⟨vs,ho,_⟩:=h;exact sd_ ho
 | obj g o=>obtain⟨rfl,_⟩:=h;exact fun _ e=>by cases e
 | mp kvs=>obtain⟨g,es,clock,rfl,_⟩:=h;exact fun _ e=>by cases e
 | opq p=>cases hs
theorem BoxRel.blk {w:World} {I:Nat→Prop} {β:Nat→Value} {y:Value} {b:Box} (h:BoxRel w I β y b) (hs:b.single=true) {n:Nat} (hn:Blk y n):blk y=some n:=hn.plain (h.plain hs)
theorem BoxRel.lt {w:World} {I:Nat→Prop} {β:Nat→Value} {y:Value} {b:Box} (h:BoxRel w I β y b) {n:Nat} (hn:Blk y n):n<w.heap.size:=by
 cases b with
 | cells T cs =>
  have hn:=h.blk rfl hn
  obtain⟨g,vs,rfl,hg,_⟩:=h
  simp only[Go.Xe.blk,Option.some.injEq] at hn
  subst hn
  exact (Array.getElem?_eq_some_iff.1 hg).1
 | row T sz m cs =>
  have hn:=h.blk rfl hn
  obtain⟨vs,ho,_⟩:=h
  rw[kN_ ho] at hn
  exact (ho.lt n hn).2
 | mp kvs =>
  have hn:=h.blk rfl hn
  obtain⟨g,es,clock,rfl,hg,_⟩:=h
  simp only[Go.Xe.blk,Option.some.injEq] at hn
  subst hn
  exact (Array.getElem?_eq_some_iff.1 hg).1
 | obj g o =>
  have hn:=h.blk rfl hn
  obtain⟨rfl,hg⟩:=h
  simp only[Go.Xe.blk,Option.some.injEq] at hn
  subst hn
  exact (Array.getElem?_eq_some_iff.1 hg).1
 | opq p =>
  obtain⟨w1,I1,_,_,hb⟩:=h
  obtain⟨h1,h2⟩:=hb n hn
  rw[Array.getElem?_eq_getElem h1] at h2
  exact (Array.getElem?_eq_some_iff.1 h2).1
theorem BoxRel.mono {w w':World} {I I':Nat→Prop} {β β':Nat→Value} {y:Value} {b:Box} (hk:Kept w I w' I') (hβ:∀ k,ah_ k b.cs=true→β' k=β k)
  (hb:∀ n,Blk y n→w'.heap[n]? = w.heap[n]?) (h:BoxRel w I β y b):BoxRel w' I' β' y b:=by
 cases b with
 | cells T cs =>
  obtain⟨g,vs,rfl,hg,hd,h1⟩:=h
  exact⟨g,vs,rfl,by rw[hb g (.inl rfl)];exact hg,DenAs.mono hk cs vs hβ hd,h1⟩
 | row T sz m cs =>
  obtain⟨vs,ho,hd,h1⟩:=h
  refine⟨vs,⟨ho.1,?_⟩,DenAs.mono hk cs vs hβ hd,h1⟩
  rcases ho.2 with hn|⟨g,cap,cur,rfl,h0,hg,hr⟩
  ·exact .inl hn
  ·exact .inr ⟨g,cap,cur,rfl,h0,by rw[hb g (.inl rfl)];exact hg,hr⟩
 | mp kvs =>
  obtain⟨g,es,clock,rfl,hg,hk2,hd,hst⟩:=h
  exact⟨g,es,clock,rfl,by rw[hb g (.inl rfl)];exact hg,hk2,Dens.mono hk _ _ hd,hst⟩
 | obj g o =>
  obtain⟨rfl,hg⟩:=h
  exact⟨rfl,by rw[hb g (.inl rfl)];exact hg⟩
 | opq p =>
  obtain⟨w1,I1,hp,hk1,h1⟩:=h
  exact⟨w1,I1,hp,hk1.trans hk,fun n hn=>⟨(h1 n hn).1,(hb n hn).trans (h1 n hn).2⟩⟩
section
variable {w0:World} {I0 F:Nat→Prop} {bx:Bxs} {I:Nat→Prop} {β:Nat→Value} {w w':World}
theorem Mem.world (h:Mem w0 I0 F bx I β w) {r:Option Nat} (hg:Gb w w' r) (hr:∀ n,r=some n→¬ I n∧(F n∨w0.heap.size≤n))
  {bx':Bxs} (hb:∀ k b,getB bx' k=some b→getB bx k=some b∧(r=none∨∀ n,r=some n→¬ Blk (β k) n)):Mem w0 I0 F bx' I β w':=by
 have hk:Kept w I w' I:=⟨fun _ h=>h,fun n hn=>hg.block n (h.im n hn) (fun e=>(hr n e.symm).1 hn)⟩
 refine⟨fun k b hkb=>?_,fun k b n hkb hn=>h.sep k b n (hb k b hkb).1 hn,fun k j b c n h1 h2=>h.inj k j b c n (hb k b h1).1 (hb j c h2).1,
  fun n hn=>Nat.lt_of_lt_of_le (h.im n hn) hg.size,h.inew,h.kept.trans hk,fun n hn hF=>?_,Nat.le_trans h.sz hg.size,hg.os.trans h.os,hg.tape.trans h.tape,hg.output.trans h.out,Nat.le_trans h.dr hg.dr,h.gl⟩
 ·obtain⟨h1,h2⟩:=hb k b hkb
  refine BoxRel.mono hk (fun _ _=>rfl) (fun n hn=>hg.block n ((h.bxs k b h1).lt hn) ?_) (h.bxs k b h1)
  rcases h2 with rfl|h2
  ·simp
  ·exact fun e=>h2 n e.symm hn
 ·rw[hg.block n (Nat.lt_of_lt_of_le hn h.sz) (fun e=>?_),h.fr n hn hF]
  have:=hr n e.symm
  rcases this.2 with h2|h2
  ·exact hF h2
  ·omega
theorem Mem.sub (h:Mem w0 I0 F bx I β w) {bx':Bxs} (hb:∀ k b,getB bx' k=some b→getB bx k=some b):Mem w0 I0 F bx' I β w :=
 ⟨fun k b hk=>h.bxs k b (hb k b hk),fun k b n hk=>h.sep k b n (hb k b hk),fun k j b c n h1 h2=>h.inj k j b c n (hb k b h1) (hb j c h2),h.im,h.inew,h.kept,h.fr,h.sz,h.os,h.tape,h.out,h.dr,h.gl⟩
theorem Mem.del (h:Mem w0 I0 F bx I β w) (j:Nat):Mem w0 I0 F (delB bx j) I β w :=
 h.sub fun k b hk=>by rw[getB_del] at hk;split at hk;cases hk;exact hk
def upd (β:Nat→Value) (k:Nat) (y:Value):Nat→Value:=fun j=>if j=k then y else β j
theorem upd_same (β:Nat→Value) (k:Nat) (y:Value):upd β k y k=y:=if_pos rfl
theorem upd_other (β:Nat→Value) {k j:Nat} (y:Value) (h:j≠k):upd β k y j=β j:=if_neg h
theorem Mem.add (h:Mem w0 I0 F bx I β w) {k:Nat} {b:Box} {y:Value} (hf:dN_ k bx=false) (hy:BoxRel w I (upd β k y) y b)
  (hn:∀ n,Blk y n→¬ I n∧(F n∨w0.heap.size≤n)∧∀ j c,getB bx j=some c→¬ Blk (β j) n):Mem w0 I0 F (setB bx k b) I (upd β k y) w:=by
 obtain⟨hf1,hf2⟩:=hasB_get hf
 have hne:∀ j c,getB bx j=some c→j≠k:=fun j c hc e=>by rw[e,hf1] at hc;cases hc
 refine⟨fun j c hc=>?_,fun j c n hc hb=>?_,fun i j c d n hc hd hi hj=>?_,h.im,h.inew,h.kept,h.fr,h.sz,h.os,h.tape,h.out,h.dr,h.gl⟩
 ·rw[a9_] at hc
  split at hc
  ·rename_i e;subst e;cases hc;rw[upd_same];exact hy
  ·rw[upd_other _ _ (hne j c hc)]
   refine BoxRel.mono (Kept.refl w I) (fun i hi=>upd_other _ _ fun e=>?_) (fun _ _=>rfl) (h.bxs j c hc)
   subst e;rw[hf2 j c hc] at hi;cases hi
 ·rw[a9_] at hc
  split at hc
  ·rename_i e;subst e;rw[upd_same] at hb;exact⟨(hn n hb).1,(hn n hb).2.1⟩
  ·rw[upd_other _ _ (hne j c hc)] at hb;exact h.sep j c n hc hb
 ·rw[a9_] at hc hd
  split at hc<;>split at hd
  ·rename_i e1 e2;exact e1.symm.trans e2
  ·rename_i e1 e2
   subst e1
   rw[upd_same] at hi
   rw[upd_other _ _ (hne j d hd)] at hj
   exact absurd hj ((hn n hi).2.2 j d hd)
  ·rename_i e1 e2
   subst e2
   rw[upd_same] at hj
   rw[upd_other _ _ (hne i c hc)] at hi
   exact absurd hi ((hn n hj).2.2 i c hc)
  ·rw[upd_other _ _ (hne i c hc)] at hi
   rw[upd_other _ _ (hne j d hd)] at hj
   exact h.inj i j c d n hc hd hi hj
theorem Mem.turn (h:Mem w0 I0 F bx I β w) {k:Nat} {b b':Box} (hb:getB bx k=some b) (hg:Gb w w' (blk (β k))) (hy:BoxRel w' I β (β k) b') :
  Mem w0 I0 F (setB bx k b') I β w':=by
 have h1:=h.world hg (fun n hn=>h.sep k b n hb (.inl hn)) (bx':=delB bx k) (fun j c hc=>by
  rw[getB_del] at hc
  split at hc
  ·cases hc
  ·rename_i hne
   exact⟨hc,.inr fun n e hj=>hne (h.inj k j b c n hb hc (.inl e) hj)⟩)
 refine⟨fun j c hc=>?_,fun j c n hc hn=>?_,fun i j c d n hc hd hi hj=>?_,h1.im,h1.inew,h1.kept,h1.fr,h1.sz,h1.os,h1.tape,h1.out,h1.dr,h1.gl⟩
 ·rw[a9_] at hc
  split at hc
  ·rename_i e;subst e;cases hc;exact hy
  ·rename_i hne;exact h1.bxs j c (by rw[getB_del,if_neg hne];exact hc)
 ·rw[a9_] at hc
  split at hc
  ·rename_i e;subst e;exact h.sep k b n hb hn
  ·exact h.sep j c n hc hn
 ·have l:∀ i c,(if k=i then some b' else getB bx i)=some c→∃ c',getB bx i=some c':=fun i c hc=>by
   split at hc
   ·rename_i e;subst e;exact⟨b,hb⟩
   ·exact⟨c,hc⟩
  rw[a9_] at hc hd
  obtain⟨c',hc'⟩:=l i c hc
  obtain⟨d',hd'⟩:=l j d hd
  exact h.inj i j c' d' n hc' hd' hi hj
end
structure St where
 sl:List AV
 bx:Bxs
 /-- Blocks for the deferred calls of ranges over functions that the frame has run. -/
 df:List Nat
def St.at (S:St) (t:Nat):AV:=(S.sl[t]?).getD (.d .any)
def St.ev (S:St):Operand→AV
 | .tmp t=>S.at t
 | .const v=>.d (.v v)
 | .func f=>.d (.v (.func (.func f) #[] #[]))
 | .global g=>match Glob.laid g with
  | some ds=>.d (.ip ds)
  | none=>.d (.v (.pointer (some ⟨g,0,none⟩)))
def St.put (S:St) (dst:Option Tmp) (x:AV):St :=
 ⟨match dst with
 | some t=>S.sl.set t x
 | none=>S.sl,S.bx,S.df⟩
def St.has (S:St) (k:Nat):Bool:=ah_ k S.sl||dN_ k S.bx||Nat.ble 1000 k
theorem b0_ {S:St} {k:Nat} (h:S.has k=false):k<1000:=by
 simp only[St.has,Bool.or_eq_false_iff] at h
 rcases Nat.lt_or_ge k 1000 with h'|h'
 ·exact h'
 ·rw[Nat.ble_eq_true_of_le h'] at h;cases h.2
theorem aF_ {S:St} {k:Nat} (h:S.has k=false):ah_ k S.sl=false∧dN_ k S.bx=false:=by
 simp only[St.has,Bool.or_eq_false_iff] at h;exact h.1
structure Dn where
 ds:List Deferred
 β0:Nat→Value
 /-- Is the frame a round's of a range over a function? -/
 ro:Option Nat
 /-- May it run ranges over functions? -/
 rf:Bool
def jg_ (b:Nat):Deferred:={ target:=.collected b,args := #[] }
def DnOk (ds:Dn) (df:List Nat) (a:Act):Prop:=a.defers=df.map jg_++ds.ds∧(ds.rf=false→df=[])
theorem DnOk.pan {ds:Dn} {df:List Nat} {a:Act} (h:DnOk ds df a) (hm:ds.rf=false):a.defers=ds.ds:=by rw[h.1,h.2 hm];rfl
def fO (ro:Option Nat):Fence:={ Fence.wide with round:=ro }
theorem callsIn_fO {ro:Option Nat} {n:Nat} {P:Program} {f:FuncId} {args:Array Value} {w:World} {R:Ending→World→Prop} (h:Calls P f args w R):CallsIn (fO ro) n P f args w R:=by
 cases ro with
 | none=>exact callsIn_wide.2 h
 | some l=>exact (callsIn_wide (n:=n)).2 h
theorem hF_ {ro:Option Nat} {ρ:Operand→Value} {o:Oper} {P:Program} {w w':World} {y:Value} (h:(execOp ρ o).run P w=.ok (.value y) w'):(o.semAt ro ρ).run P w=.ok (.value y) w':=by
 cases ro with
 | none=>exact h
 | some l =>
  rw[Oper.semAt_eq]
  ·exact h
  ·intro c hc
   rw[execOp,hc] at h
   simp only[Sem.run_bind] at h
   cases hr:(resolve ρ c o.type).run P w with
   | ok d w1=>rw[hr] at h;simp at h
   | halt x w1=>rw[hr] at h;cases h
theorem qe_ {ro:Option Nat} {ρ:Operand→Value} {o:Oper} {P:Program} {w w':World} (h:(execOp ρ o).run P w=.ok .skip w'):(o.semAt ro ρ).run P w=.ok .skip w':=by
 cases ro with
 | none=>exact h
 | some l =>
  rw[Oper.semAt_eq]
  ·exact h
  ·intro c hc
   rw[execOp,hc] at h
   simp only[Sem.run_bind] at h
   cases hr:(resolve ρ c o.type).run P w with
   | ok d w1=>rw[hr] at h;simp at h
   | halt x w1=>rw[hr] at h;cases h
structure Rel (ds:Dn) (w0:World) (I0 F:Nat→Prop) (S:St) (I:Nat→Prop) (β:Nat→Value) (a:Act) (w:World):Prop where
 mem:Mem w0 I0 F S.bx I β w
 sl:DenAs w I β S.sl a.tmps.toList
 dn:DnOk ds S.df a
 fx:∀ k,1000≤k→β k=ds.β0 k
section
variable {ds:Dn} {w0:World} {I0 F:Nat→Prop} {S:St} {I:Nat→Prop} {β:Nat→Value} {a:Act} {w:World}
theorem tQ_ (w:World) (I:Nat→Prop) (y:Value):Den w I .any y:=by rw[Den];trivial
theorem aW_ (w:World) (I:Nat→Prop) (β:Nat→Value) (y:Value):DenA w I β (.d .any) y:=by rw[DenA];exact tQ_ w I y
theorem DenA_v {x y:Value}:DenA w I β (.d (.v x)) y↔y=x:=by rw[DenA,Den]
theorem Rel.ev (h:Rel ds w0 I0 F S I β a w) (x:Operand):DenA w I β (S.ev x) (a.eval x):=by
 cases x with
 | tmp t =>
  simp only[St.ev,St.at,Act.eval]
  cases ht:S.sl[t]? with
  | none=>exact aW_ _ _ _ _
  | some v =>
   obtain⟨y,hy,hd⟩:=h.sl.get ht
   have:a.tmps.getD t undef=y:=by simp[Array.getD_eq_getD_getElem?,← Array.getElem?_toList,hy]
   rw[this];exact hd
 | const v=>rw[St.ev,DenA_v];rfl
 | func f=>rw[St.ev,DenA_v];rfl
 | global g =>
  rw[St.ev]
  cases hg:Glob.laid g with
  | none=>simp only[DenA_v];rfl
  | some ds=>simp only[DenA];exact h.mem.glNow g ds hg
theorem Rel.put (h:Rel ds w0 I0 F S I β a w) (dst:Option Tmp) {x:AV} {y:Value} (hx:DenA w I β x y):Rel ds w0 I0 F (S.put dst x) I β (a.put dst y) w:=by
 cases dst with
 | none=>exact h
 | some t=>exact⟨h.mem,by simpa [St.put,Act.put] using DenAs.set hx h.sl t,h.dn,h.fx⟩
theorem tN_ (S:St) (dst:Option Tmp) (x:AV):(S.put dst x).bx=S.bx:=by cases dst<;>rfl
end
structure Eff where
 v:AV
 del:List Nat
 upd:Bxs
 add:Bxs
 deriving Inhabited
def cZ_:Bxs→List Nat→Bxs
 | bx,[]=>bx
 | bx,k::ks=>cZ_ (delB bx k) ks
def c2_:Bxs→Bxs→Bxs
 | bx,[]=>bx
 | bx,(k,b)::r=>c2_ (setB bx k b) r
def St.app (S:St) (dst:Option Tmp) (e:Eff):St:=(St.mk S.sl (c2_ (c2_ (cZ_ S.bx e.del) e.upd) e.add) S.df).put dst e.v
def h2_:Bxs→List Nat→Bxs
 | [],_=>[]
 | (k,b)::r,Z=>if Z.contains k then (k,b)::h2_ r Z else h2_ r Z
structure Pn where
 ok:List PanicEntry→Prop
 Z:List Nat
 zs:List (Nat×AV)
def ap_:Pn:=⟨fun _=>False,[],[]⟩
structure PRel (ds:Dn) (w0:World) (I0 F:Nat→Prop) (pn:Pn) (bx:Bxs) (I:Nat→Prop) (β:Nat→Value) (a:Act) (w:World):Prop where
 mem:Mem w0 I0 F (h2_ bx pn.Z) I β w
 dn:ds.rf=false→a.defers=ds.ds
 zs:∀ p∈pn.zs,DenA w I β p.2 (a.eval (.tmp p.1))
def Core (P:Program) (ds:Dn) (pn:Pn) (o:Oper) (S S':St):Prop :=
 ∀ w0 I0 F I β a w,Rel ds w0 I0 F S I β a w→∀ (next:Act→World→Prop) (Q:Exit→Act→World→Prop),
  (∀ I' β' a' w',Rel ds w0 I0 F S' I' β' a' w'→next a' w') →
  (∀ ch I' β' w',pn.ok ch→PRel ds w0 I0 F pn S.bx I' β' a w'→Q (.panic ch) a w') →
  o.wpIn (fO ds.ro) 1 P a w next Q
def eG_ (G:List (Option Tmp)) (tmps:Array Value) (j:Nat):Option Bool :=
 match ((G[j]?).bind id).bind (tmps[·]?) with
 | some (.bool b)=>some b
 | _=>none
def ff_ (G:List (Option Tmp)) (o:Oper) (tmps:Array Value):Bool :=
 match o.guard with
 | none=>true
 | some (j,want)=>eG_ G tmps j == some want
def Ei_ (P:Program) (ds:Dn) (pn:Pn) (G:List (Option Tmp)) (o:Oper) (S S':St):Prop :=
 ∀ w0 I0 F I β a w,Rel ds w0 I0 F S I β a w→∀ (next:Act→World→Prop) (Q:Exit→Act→World→Prop),
  (∀ I' β' a' w',Rel ds w0 I0 F S' I' β' a' w'→next a' w') →
  (∀ ch I' β' w',pn.ok ch→PRel ds w0 I0 F pn S.bx I' β' a w'→Q (.panic ch) a w') →
  if ff_ G o a.tmps=true then o.wpIn (fO ds.ro) 1 P a w next Q else next (a.put o.dst undef) w
def dq_ (G:List (Option Tmp)) (o:Oper):Option Nat:=o.guard.bind fun g=>(G[g.1]?).bind id
def jS_ (o:Oper) (pn:Pn) (fp:List Nat) (S S1:St):Prop :=
 (∀ x∈o.op.operands,S1.ev x=S.ev x)∧(∀ p∈pn.zs,S1.at p.1=S.at p.1)∧∀ k∈fp,getB S1.bx k=getB S.bx k
def LCore (P:Program) (ds:Dn) (pn:Pn) (o:Oper) (S:St) (e:Eff) (fp:List Nat):Prop :=
 ∀ S1,jS_ o pn fp S S1→(∀ p∈e.add,S1.has p.1=false)→Core P ds pn o S1 (S1.app o.dst e)
def LStep (P:Program) (ds:Dn) (pn:Pn) (G:List (Option Tmp)) (o:Oper) (S:St) (e:Eff) (fp:List Nat):Prop :=
 ∀ S1,jS_ o pn fp S S1→(∀ t,dq_ G o=some t→S1.at t=S.at t)→(∀ p∈e.add,S1.has p.1=false)→Ei_ P ds pn G o S1 (S1.app o.dst e)
theorem LStep.of_core {P:Program} {ds:Dn} {pn:Pn} {G:List (Option Tmp)} {o:Oper} {S:St} {e:Eff} {fp:List Nat} (hg:o.guard=none) (h:LCore P ds pn o S e fp):LStep P ds pn G o S e fp:=by
 intro S1 h1 _ h3 w0 I0 F I β a w hr next Q hn hp
 rw[if_pos (by simp[ff_,hg])]
 exact h S1 h1 h3 w0 I0 F I β a w hr next Q hn hp
def unw (g:Bool):AV→AV
 | .when b x=>if g=true→b=true then x else .when b x
 | x=>x
def St.under (S:St) (g:Bool):St:=⟨S.sl.map (unw g),S.bx,S.df⟩
theorem vV_ {w:World} {I:Nat→Prop} {β:Nat→Value} {x:AV} {y:Value} (h:DenA w I β x y):DenA w I β (unw true x) y:=by
 cases x<;>try exact h
 rename_i b x
 simp only[unw]
 split
 ·rename_i hb;exact h.1 (hb trivial)
 ·exact h
theorem mR_ {w:World} {I:Nat→Prop} {β:Nat→Value}:∀ {cs:List AV} {vs:List Value},DenAs w I β cs vs→DenAs w I β (cs.map (unw true)) vs
 | [],_,h=>h
 | _::_,_,h=>by obtain⟨v,vs',e,h1,h2⟩:=h;exact⟨v,vs',e,vV_ h1,mR_ h2⟩
theorem Rel.under {ds:Dn} {w0:World} {I0 F:Nat→Prop} {S:St} {I:Nat→Prop} {β:Nat→Value} {a:Act} {w:World} (h:Rel ds w0 I0 F S I β a w):Rel ds w0 I0 F (S.under true) I β a w :=
 ⟨h.mem,mR_ h.sl,h.dn,h.fx⟩
theorem eC_ (S:St) (g:Bool) (t:Nat):(S.under g).at t=unw g (S.at t):=by
 simp only[St.at,St.under,List.getElem?_map]
 cases S.sl[t]? <;> rfl
theorem iA_ (S:St) (g:Bool) (x:Operand):(S.under g).ev x=unw g (S.ev x):=by
 cases x
 case tmp t=>exact eC_ S g t
 case global n=>simp only[St.ev];cases Glob.laid n<;>rfl
 all_goals rfl
theorem iG_ {w:World} {I:Nat→Prop} {β:Nat→Value} {x:AV} {y:Value} (h:DenA w I β (unw true x) y):DenA w I β x y:=by
 cases x<;>try exact h
 rename_i b x
 simp only[unw] at h
 split at h
 ·rename_i hb;exact⟨fun _=>h,fun e=>by rw[hb trivial] at e;cases e⟩
 ·exact h
theorem DenAs_of_unw {w:World} {I:Nat→Prop} {β:Nat→Value}:∀ {cs:List AV} {vs:List Value},DenAs w I β (cs.map (unw true)) vs→DenAs w I β cs vs
 | [],_,h=>h
 | _::_,_,h=>by obtain⟨v,vs',e,h1,h2⟩:=h;exact⟨v,vs',e,iG_ h1,DenAs_of_unw h2⟩
theorem dd_ {w:World} {I:Nat→Prop} {β:Nat→Value} {v:AV} {g:Bool} (hg:g=true):∀ {cs:List AV} {vs:List Value} {t:Nat},DenAs w I β ((cs.map (unw true)).set t v) vs→DenAs w I β (cs.set t (.when g v)) vs
 | [],_,_,h=>h
 | _::_,_,0,h=>by obtain⟨v,vs',e,h1,h2⟩:=h;exact⟨v,vs',e,⟨fun _=>h1,fun e=>by rw[hg] at e;cases e⟩,DenAs_of_unw h2⟩
 | _::_,_,t+1,h=>by obtain⟨v,vs',e,h1,h2⟩:=h;exact⟨v,vs',e,iG_ h1,dd_ hg h2⟩
def wantB (want b:Bool):Bool:=if want then b else !b
def kt_ (want:Bool):AV→Option Bool
 | .d (.v (.bool b))=>some (wantB want b)
 | .when c (.d (.v (.bool b)))=>some (c&&wantB want b)
 | _=>none
def asB:Value→Option Bool
 | .bool b=>some b
 | _=>none
theorem u2_ {w:World} {I:Nat→Prop} {β:Nat→Value} {want g:Bool} {x:AV} {y:Value} (h:kt_ want x=some g) (hd:DenA w I β x y):asB y == some want↔g=true:=by
 unfold kt_ at h
 split at h
 ·rename_i b
  rw[DenA_v] at hd
  subst hd
  cases h
  cases want<;>cases b<;>simp[wantB,asB]
 ·rename_i c b
  cases h
  cases c with
  | true =>
   have:=hd.1 rfl
   rw[DenA_v] at this
   subst this
   cases want<;>cases b<;>simp[wantB,asB]
  | false =>
   have:=hd.2 rfl
   subst this
   simp[undef,asB]
 ·cases h
theorem LStep.of_guard {P:Program} {ds:Dn} {pn:Pn} {G:List (Option Tmp)} {o:Oper} {S:St} {v:AV} {fp:List Nat} {j t:Nat} {want g:Bool}
  (hg:o.guard=some (j,want)) (hj:(G[j]?).bind id=some t) (hb:kt_ want (S.at t)=some g)
  (h:g=true→LCore P ds pn o (S.under g) ⟨v,[],[],[]⟩ fp):LStep P ds pn G o S ⟨.when g v,[],[],[]⟩ fp:=by
 intro S1 h1 h2 _ w0 I0 F I β a w hr next Q hn hp
 have ht:dq_ G o=some t:=by simp[dq_,hg,hj]
 have hw:ff_ G o a.tmps=true↔g=true:=by
  have hs:=h2 t ht
  rw[← hs] at hb
  simp only[St.at] at hb
  cases hst:S1.sl[t]? with
  | none=>rw[hst] at hb;simp[kt_] at hb
  | some x =>
   rw[hst] at hb
   simp only[Option.getD_some] at hb
   obtain⟨y,hy,hd⟩:=hr.sl.get hst
   have hy':a.tmps[t]? = some y:=by simpa using hy
   have hyd:eG_ G a.tmps j=asB y:=by
    unfold eG_
    rw[hj,Option.bind_some,hy']
    cases y<;>rfl
   simp only[ff_,hg,hyd]
   exact u2_ hb hd
 cases g with
 | true =>
  rw[if_pos (hw.2 rfl)]
  have hc:=h rfl
  have same:jS_ o pn fp (S.under true) (S1.under true) :=
   ⟨fun x hx=>by rw[iA_,iA_,h1.1 x hx],fun p hp=>by rw[eC_,eC_,h1.2.1 p hp],h1.2.2⟩
  refine hc (S1.under true) same (by simp) w0 I0 F I β a w hr.under next Q (fun I' β' a' w' hr'=>hn I' β' a' w' ⟨?_,?_,hr'.dn,hr'.fx⟩) hp
  ·have:=hr'.mem
   simpa [St.app,cZ_,c2_,tN_,St.under] using this
  ·have:=hr'.sl
   simp only[St.app,cZ_,c2_,St.under] at this ⊢
   cases hd:o.dst with
   | none=>rw[hd] at this;exact DenAs_of_unw this
   | some d=>rw[hd] at this;exact dd_ rfl this
 | false =>
  rw[if_neg (fun e=>by cases hw.1 e)]
  refine hn I β _ w ?_
  exact hr.put o.dst (x:=.when false v) (y:=undef) ⟨fun e=>(by cases e),fun _=>rfl⟩
structure TI where
 e:Eff
 fp:List Nat
 deriving Inhabited
def RunD (P:Program) (ds:Dn) (pn:Pn) (G:List (Option Tmp)):List Oper→St→List TI→(List TI→St→Prop)→Prop
 | [],S,acc,K=>K acc.reverse S
 | o::os,S,acc,K=>∃ e fp,LStep P ds pn G o S e fp∧(∀ p∈e.add,S.has p.1=false)∧RunD P ds pn G os (S.app o.dst e) (⟨e,fp⟩::acc) K
theorem mV_ (ops:Array Oper) (tmps:Array Value) (j:Nat):yielded ops tmps j=eG_ (ops.toList.map (·.dst)) tmps j:=by
 unfold yielded eG_
 have:((ops.toList.map (·.dst))[j]?).bind id=(ops[j]?).bind (·.dst):=by
  simp only[List.getElem?_map,Array.getElem?_toList]
  cases ops[j]? <;> rfl
 rw[this]
 cases ((ops[j]?).bind (·.dst)).bind (tmps[·]?) with
 | none=>rfl
 | some v=>cases v<;>rfl
theorem iZ_ (ops:Array Oper) (o:Oper) (tmps:Array Value):Region.wanted o (yielded ops tmps)=ff_ (ops.toList.map (·.dst)) o tmps:=by
 unfold Region.wanted ff_
 cases o.guard with
 | none=>rfl
 | some p=>obtain⟨j,want⟩:=p;simp only[mV_]
theorem fQ_ {P:Program} {ds:Dn} {pn:Pn} {ops:Array Oper} {Q:Exit→Act→World→Prop} {w0:World} {I0 F:Nat→Prop} {K:List TI→St→Prop}
  (hQ:∀ ch a w,pn.ok ch→(∃ bx I β,PRel ds w0 I0 F pn bx I β a w)→Q (.panic ch) a w) :
  ∀ (os:List Oper) (S:St) (acc:List TI) (I:Nat→Prop) (β:Nat→Value) (a:Act) (w:World),RunD P ds pn (ops.toList.map (·.dst)) os S acc K→Rel ds w0 I0 F S I β a w →
   (∀ tis S' I' β' a' w',K tis S'→Rel ds w0 I0 F S' I' β' a' w'→Q .normal a' w')→wpListIn (fO ds.ro) 1 P ops Q os a w
 | [],S,acc,I,β,a,w,h,hr,hK=>hK _ _ _ _ _ _ h hr
 | o::os,S,acc,I,β,a,w,h,hr,hK=>by
  obtain⟨e,fp,hl,hf,hrest⟩:=h
  refine wpListIn_step fun K' hK'=>?_
  rw[iZ_]
  have hg:=hl S ⟨fun _ _=>rfl,fun _ _=>rfl,fun _ _=>rfl⟩ (fun _ _=>rfl) hf w0 I0 F I β a w hr K' Q (fun I' β' a' w' hr'=>hK' a' w' (fQ_ hQ os _ _ I' β' a' w' hrest hr' hK)) (fun ch I' β' w' hok hp=>hQ ch a w' hok ⟨_,_,_,hp⟩)
  split
  ·rename_i hw;rw[if_pos hw] at hg;exact hg
  ·rename_i hw;rw[if_neg hw] at hg;exact⟨fun _ _=>trivial,hg⟩
end Go.Xe
namespace Go.Xe
open Go.RowKit
variable [Glob]
/-! ### Types -/
inductive TK where
 | int (k:IntKind)|bool|string|ptr (e:Nat)|slice (e:Nat)|struct (fs:List (Nat×Nat))|array (n e:Nat)|func|map (k e:Nat)|iface
structure TE where
 k:TK
 size:Nat
 bytes:Nat
 zero:List Value
def TK.ok:TK→TypeDesc→Prop
 | .int k,d=>d=.int k
 | .bool,d=>d=.bool
 | .string,d=>d=.string
 | .ptr e,d=>d=.pointer e
 | .slice e,d=>d=.slice e
 | .struct fs,d=>∃ a:Array Field,d=.struct a∧a.toList.map (fun f=>(f.offset,f.type))=fs
 | .array n e,d=>d=.array n e
 | .func,d=>∃ a b c,d=.func a b c
 | .map k e,d=>d=.map k e
 | .iface,d=>∃ m,d=.interface m
structure TyOk (P:Program) (T:TypeId) (e:TE):Prop where
 info:∃ i z,P.info? T=some i∧i.size=e.size∧i.bytes=e.bytes∧i.zero=some z∧z.cells.toList=e.zero∧e.zero.length=e.size∧e.zero.all (·.oneCell')=true
 und:∃ d,P.underlying T=some d∧e.k.ok d
abbrev Tab:=Nat→Option TE
def aq_ (P:Program) (τ:Tab):Prop:=∀ T e,τ T=some e→TyOk P T e
def TK.agg:TK→Bool
 | .struct _|.array _ _=>true
 | _=>false
section
variable {P:Program} {T:TypeId} {e:TE} (w:World)
theorem TyOk.size (h:TyOk P T e):(sizeOf T).run P w=.ok e.size w:=by
 obtain⟨i,z,hi,h1,_⟩:=h.info
 simp[sizeOf,typeInfo,hi,h1]
theorem TyOk.isAgg (h:TyOk P T e):(isAgg T).run P w=.ok e.k.agg w:=by
 obtain⟨d,hd,hk⟩:=h.und
 have hu:=run_underlying hd w
 unfold Go.isAgg
 rw[Sem.run_bind,hu,Result.andThen_ok]
 cases hk':e.k<;>rw[hk'] at hk<;>simp only[TK.ok] at hk<;>first
  | (subst hk;rfl)
  | (obtain⟨a,rfl,_⟩:=hk;rfl)
  | (obtain⟨a,b,c,rfl⟩:=hk;rfl)
  | (obtain⟨a,rfl⟩:=hk;rfl)
theorem TyOk.zero (h:TyOk P T e):∃ z,(zeroValue T).run P w=.ok z w∧z.cells.toList=e.zero:=by
 obtain⟨i,z,hi,_,_,hz,hc,_⟩:=h.info
 exact⟨z,by simp[zeroValue,typeInfo,hi,hz],hc⟩
theorem TyOk.zlen (h:TyOk P T e):e.zero.length=e.size:=by obtain⟨i,z,_,_,_,_,_,hl,_⟩:=h.info;exact hl
theorem TyOk.zone (h:TyOk P T e):∀ v∈e.zero,v.oneCell'=true:=by
 obtain⟨i,z,_,_,_,_,_,_,ho⟩:=h.info
 intro v hv
 exact List.all_eq_true.1 ho v hv
end
/-! ### Values -/
def AV.cells:AV→List AV
 | .agg cs=>cs
 | .d (.agg cs)=>cs.map .d
 | .d (.v (.agg a))=>a.toList.map fun x=>.d (.v x)
 | x=>[x]
def oneD:D→Bool
 | .v x=>x.oneCell'
 | .sl .. => true
 | .ip _=>true
 | _=>false
def oneA:AV→Bool
 | .d x=>oneD x
 | .ptr .. | .row _|.rptr .. | .psl .. | .rsl .. | .fn .. | .iface .. => true
 | _=>false
section
variable {w:World} {I:Nat→Prop} {β:Nat→Value}
theorem xe_:∀ {x:D} {y:Value},Den w I x y→oneD x=true→y.oneCell'=true
 | .v _,_,h,ho=>by rw[Den] at h;subst h;exact ho
 | .sl ..,_,h,_=>by obtain⟨a,cap,rfl,_⟩:=h;rfl
 | .ip _,_,h,_=>by obtain⟨b,off,rfl,_⟩:=h;rfl
 | .any,_,_,ho=>by cases ho
 | .agg _,_,_,ho=>by cases ho
 | .tup _,_,_,ho=>by cases ho
theorem si_:∀ {x:AV} {y:Value},DenA w I β x y→oneA x=true→y.oneCell'=true
 | .d _,_,h,ho=>xe_ h ho
 | .ptr ..,_,h,_=>by obtain⟨b,_,rfl⟩:=h;rfl
 | .row _,_,h,_=>by rcases h with⟨_,⟨a,n,c,rfl⟩|⟨r,rfl⟩⟩<;>rfl
 | .rptr ..,_,h,_=>by obtain⟨b,n,c,_,rfl⟩:=h;rfl
 | .psl ..,_,h,_=>by obtain⟨b,_,rfl⟩:=h;rfl
 | .rsl ..,_,h,_=>by obtain⟨b,m,c,c',_,rfl⟩:=h;rfl
 | .fn ..,_,h,_=>by obtain⟨a,b,rfl,_⟩:=h;rfl
 | .iface ..,_,h,_=>by obtain⟨z,rfl,_⟩:=h;rfl
 | .agg _,_,_,ho=>by cases ho
 | .tup _,_,_,ho=>by cases ho
 | .when ..,_,_,ho=>by cases ho
theorem eV_:∀ {cs:List AV} {vs:List Value},DenAs w I β cs vs→(∀ c∈cs,oneA c=true)→∀ v∈vs,v.oneCell'=true
 | [],_,h,_=>by rw[DenAs] at h;subst h;simp
 | c::cs,_,h,ho=>by
  obtain⟨v,vs',rfl,h1,h2⟩:=h
  intro u hu
  rcases List.mem_cons.1 hu with rfl|hu
  ·exact si_ h1 (ho c (by simp))
  ·exact eV_ h2 (fun d hd=>ho d (by simp[hd])) u hu
theorem lT_ {y:Value} (h:y.oneCell'=true):y.cells.toList=[y]:=by cases y<;>first|rfl|cases h
theorem a2_:∀ (l:List Value),DenAs w I β (l.map fun x=>.d (.v x)) l
 | []=>rfl
 | x::l=>⟨x,l,rfl,DenA_v.2 rfl,a2_ l⟩
theorem he_ {x:AV} {y:Value} (h:DenA w I β x y) (ho:∀ c∈x.cells,oneA c=true):DenAs w I β x.cells y.cells.toList:=by
 have one:oneA x=true→x.cells=[x]→DenAs w I β x.cells y.cells.toList:=fun h1 h2=>by
  rw[h2,lT_ (si_ h h1)];exact⟨y,[],rfl,h,rfl⟩
 cases x with
 | agg cs=>obtain⟨vs,rfl,h⟩:=h;simpa [AV.cells,Value.cells] using h
 | d x =>
  cases x with
  | agg cs=>obtain⟨vs,rfl,h⟩:=h;simpa [AV.cells,Value.cells] using DenAs.of_dens h
  | v x =>
   cases x with
   | agg a=>rw[DenA_v] at h;subst h;simpa [AV.cells,Value.cells] using a2_ (w:=w) (I:=I) (β:=β) a.toList
   | _=>exact one (ho _ (by simp[AV.cells])) rfl
  | _=>exact one (ho _ (by simp[AV.cells])) rfl
 | _=>exact one (ho _ (by simp[AV.cells])) rfl
end
/-! ### An operation whose run is known -/
section
variable {P:Program} {ds:Dn} {pn:Pn} {o:Oper} {S S':St}
theorem Core.value {v:AV} (h:∀ w0 I0 F I β a w,Rel ds w0 I0 F S I β a w→∃ y,(execOp a.eval o).run P w=.ok (.value y) w∧DenA w I β v y):Core P ds pn o S (S.app o.dst ⟨v,[],[],[]⟩):=by
 intro w0 I0 F I β a w hr next Q hn _
 obtain⟨y,hrun,hd⟩:=h w0 I0 F I β a w hr
 refine⟨fun _ _=>trivial,?_⟩
 rw[hF_ hrun,Oper.uponIn_value]
 exact hn I β _ w (hr.put o.dst hd)
theorem Core.world (h:∀ w0 I0 F I β a w,Rel ds w0 I0 F S I β a w→∃ y w' I' β',(execOp a.eval o).run P w=.ok (.value y) w'∧Rel ds w0 I0 F S' I' β' (a.put o.dst y) w'):Core P ds pn o S S':=by
 intro w0 I0 F I β a w hr next Q hn _
 obtain⟨y,w',I',β',hrun,hd⟩:=h w0 I0 F I β a w hr
 refine⟨fun _ _=>trivial,?_⟩
 rw[hF_ hrun,Oper.uponIn_value]
 exact hn I' β' _ w' hd
theorem Core.skip (h:∀ w0 I0 F I β a w,Rel ds w0 I0 F S I β a w→∃ w' I' β',(execOp a.eval o).run P w=.ok .skip w'∧Rel ds w0 I0 F S' I' β' (a.put o.dst undef) w'):Core P ds pn o S S':=by
 intro w0 I0 F I β a w hr next Q hn _
 obtain⟨w',I',β',hrun,hd⟩:=h w0 I0 F I β a w hr
 refine⟨fun _ _=>trivial,?_⟩
 rw[qe_ hrun,Oper.uponIn_skip]
 exact hn I' β' _ w' hd
end
theorem fa_ (w:World) (o:Obj) (n:Nat) (h:n<w.heap.size):(w.alloc o).heap[n]? = w.heap[n]? := (Gb.alloc w o none).block n h (by simp)
theorem Rel.alloc {ds:Dn} {w0:World} {I0 F:Nat→Prop} {S:St} {I:Nat→Prop} {β:Nat→Value} {a:Act} {w:World} (hr:Rel ds w0 I0 F S I β a w)
  {k:Nat} (hf:S.has k=false) {cs:Array Value} {T:TypeId} {b:Box} {y:Value} (hy:blk y=some w.heap.size)
  (hb:BoxRel (w.alloc (.cells cs T)) I (upd β k y) y b):Rel ds w0 I0 F ⟨S.sl,setB S.bx k b,S.df⟩ I (upd β k y) a (w.alloc (.cells cs T)):=by
 have hk9:=b0_ hf
 have hf:=aF_ hf
 have hm:=hr.mem.world (Gb.alloc w (.cells cs T) none) (r:=none) (by simp) (bx':=S.bx) (fun k b h=>⟨h,.inl rfl⟩)
 refine⟨hm.add hf.2 hb (fun n hn=>?_),DenAs.mono ⟨fun _ h=>h,fun n hn=>fa_ w _ n (hr.mem.im n hn)⟩ _ _ (fun j hj=>upd_other _ _ fun e=>?_) hr.sl,hr.dn,fun j hj=>(upd_other _ _ (by omega)).trans (hr.fx j hj)⟩
 ·have:=hn.one hy
  subst this
  refine⟨fun hI=>Nat.lt_irrefl _ (hr.mem.im _ hI),.inr hr.mem.sz,fun j c hc hn=>?_⟩
  exact Nat.lt_irrefl _ ((hr.mem.bxs j c hc).lt hn)
 ·subst e;rw[hf.1] at hj;cases hj
theorem dX_ (S:St) (dst:Option Tmp) (v:AV) (k:Nat) (b:Box):S.app dst ⟨v,[],[],[(k,b)]⟩=(St.mk S.sl (setB S.bx k b) S.df).put dst v:=rfl
theorem bQ_ (S:St) (dst:Option Tmp) (v:AV) (k:Nat) (b:Box):S.app dst ⟨v,[],[(k,b)],[]⟩=(St.mk S.sl (setB S.bx k b) S.df).put dst v:=rfl
abbrev OpR:=Option (Prop×Eff×List Nat)
def okV (v:AV):OpR:=some (True,⟨v,[],[],[]⟩,[])
def aS_ (P:Program) (o:Oper) (f:St→OpR):Prop :=
 ∀ ds pn S side e fp,f S=some (side,e,fp)→side→LCore P ds pn o S e fp
theorem nd_ {P:Program} {o:Oper} {x:Operand} (ho:o.op=.move x):aS_ P o fun S=>okV (S.ev x):=by
 intro ds pn S side e fp h _ S1 hs _
 simp only[okV,Option.some.injEq,Prod.mk.injEq] at h
 obtain⟨_,rfl,_⟩:=h
 have e1:=hs.1 x (by simp[ho,Op.operands])
 exact Core.value fun w0 I0 F I β a w hr=>⟨a.eval x,by simp[execOp,ho],by rw[← e1];exact hr.ev x⟩
theorem jO_ {P:Program} {o:Oper} {x:Operand} (ho:o.op=.assign x):aS_ P o fun S=>okV (S.ev x):=by
 intro ds pn S side e fp h _ S1 hs _
 simp only[okV,Option.some.injEq,Prod.mk.injEq] at h
 obtain⟨_,rfl,_⟩:=h
 have e1:=hs.1 x (by simp[ho,Op.operands])
 exact Core.value fun w0 I0 F I β a w hr=>⟨a.eval x,by simp[execOp,ho],by rw[← e1];exact hr.ev x⟩
/-! ### pick -/
def e8_:AV→Option (Bool×Bool)
 | .d (.v (.bool p))=>some (p,true)
 | .when b (.d (.v (.bool p)))=>some (p,b)
 | _=>none
def pickA (c a b:AV):OpR :=
 match c with
 | .d (.v (.bool t))=>(e8_ a).bind fun p=>(e8_ b).bind fun q=>some ((t=true→p.2=true)∧(t=false→q.2=true),⟨.d (.v (.bool (cond t p.1 q.1))),[],[],[]⟩,[])
 | _=>none
def o4_ (c a b:Operand) (S:St):OpR:=pickA (S.ev c) (S.ev a) (S.ev b)
theorem lV_ {w:World} {I:Nat→Prop} {β:Nat→Value} {g p:Bool} {x:AV} {y:Value} (h:DenA w I β x y) (hb:e8_ x=some (p,g)) (hg:g=true):y=.bool p:=by
 unfold e8_ at hb
 split at hb
 ·cases hb;rwa[DenA_v] at h
 ·cases hb;have:=h.1 hg;rwa[DenA_v] at this
 ·cases hb
theorem nc_ {P:Program} {o:Oper} {c a b:Operand} (ho:o.op=.pick c a b):aS_ P o (o4_ c a b):=by
 intro ds pn S side e fp h hside S1 hs _
 have ec:=hs.1 c (by simp[ho,Op.operands])
 have ea:=hs.1 a (by simp[ho,Op.operands])
 have eb:=hs.1 b (by simp[ho,Op.operands])
 unfold o4_ pickA at h
 rw[← ec,← ea,← eb] at h
 split at h
 ·rename_i t ht
  cases h1:e8_ (S1.ev a) with
  | none=>rw[h1] at h;cases h
  | some p =>
   cases h2:e8_ (S1.ev b) with
   | none=>rw[h1,h2] at h;cases h
   | some q =>
    rw[h1,h2] at h
    cases h
    refine Core.value fun w0 I0 F I β A w hr=>?_
    have hc:=hr.ev c
    have ha:=hr.ev a
    have hb:=hr.ev b
    rw[ht,DenA_v] at hc
    cases t with
    | true=>exact⟨A.eval a,by simp[execOp,ho,hc,asBool],by rw[lV_ ha h1 (hside.1 rfl),DenA_v];rfl⟩
    | false=>exact⟨A.eval b,by simp[execOp,ho,hc,asBool],by rw[lV_ hb h2 (hside.2 rfl),DenA_v];rfl⟩
 ·cases h
/-! ### alloc, box -/
def ke_ (τ:Tab) (dst:Option Tmp) (T:TypeId) (_:St):OpR :=
 match dst,τ T with
 | some k,some e=>some (True,⟨.ptr k 0,[],[],[(k,.cells T (e.zero.map fun x=>.d (.v x)))]⟩,[])
 | _,_=>none
def uI_ (dst:Option Tmp) (T:TypeId) (x:Operand) (S:St):OpR :=
 match dst with
 | some k=>some (∀ c∈(S.ev x).cells,oneA c=true,⟨.ptr k 0,[],[],[(k,.cells T (S.ev x).cells)]⟩,[])
 | _=>none
theorem iF_ {w:World} {I:Nat→Prop} {β:Nat→Value} (k b off:Nat):DenA w I (upd β k (.pointer (some ⟨b,0,none⟩))) (.ptr k off) (.pointer (some ⟨b,off,none⟩)) :=
 ⟨b,upd_same _ _ _,rfl⟩
theorem wb_ {S:St} {k:Nat} (h:S.has k=false) (x:Operand):AV.has k (S.ev x)=false:=by
 have hl:∀ (l:List AV),ah_ k l=false→∀ t:Nat,AV.has k (l[t]?.getD (.d .any))=false:=by
  intro l
  induction l with
  | nil=>intro _ t;simp[AV.has]
  | cons c cs ih =>
   intro hh t
   simp only[ah_,Bool.or_eq_false_iff] at hh
   cases t with
   | zero=>simpa using hh.1
   | succ t=>simpa using ih hh.2 t
 have h:=aF_ h
 cases x with
 | tmp t=>exact hl S.sl h.1 t
 | global g=>simp only[St.ev];cases Glob.laid g<;>simp[AV.has]
 | _=>simp[St.ev,AV.has]
theorem lA_ {k:Nat} {x:AV} (h:AV.has k x=false):ah_ k x.cells=false:=by
 have hm:∀ l:List D,ah_ k (l.map .d)=false:=fun l=>by induction l with|nil=>rfl|cons c cs ih=>simp[ah_,AV.has,ih]
 have hm2:∀ l:List Value,ah_ k (l.map fun x=>.d (.v x))=false:=fun l=>by induction l with|nil=>rfl|cons c cs ih=>simp[ah_,AV.has,ih]
 cases x with
 | agg cs=>simpa [AV.cells,AV.has] using h
 | d x =>
  cases x with
  | agg cs=>exact hm cs
  | v x =>
   cases x with
   | agg a=>exact hm2 _
   | _=>simp[AV.cells,ah_,AV.has]
  | _=>simp[AV.cells,ah_,AV.has]
 | _=>simp only[AV.cells,ah_,Bool.or_false];exact h
theorem li_ {P:Program} {τ:Tab} (hτ:aq_ P τ) {o:Oper} {T:TypeId} (ho:o.op=.alloc T):aS_ P o (ke_ τ o.dst T):=by
 intro ds pn S side e fp h _ S1 _ hf
 unfold ke_ at h
 split at h
 ·rename_i k te hd ht
  cases h
  have hk:S1.has k=false:=hf _ (List.mem_singleton.2 rfl)
  have tk:=hτ T te ht
  refine Core.world fun w0 I0 F I β a w hr=>?_
  obtain⟨z,hz,hc⟩:=tk.zero w
  refine⟨.pointer (some ⟨w.heap.size,0,none⟩),w.alloc (.cells z.cells T),I,upd β k (.pointer (some ⟨w.heap.size,0,none⟩)),?_,?_⟩
  ·simp[execOp,ho,Instr.alloc,hz,newVar,newRow]
  ·rw[dX_]
   refine Rel.put (hr.alloc (b:=.cells T (te.zero.map fun x=>.d (.v x))) (y:=.pointer (some ⟨w.heap.size,0,none⟩)) hk rfl ⟨w.heap.size,te.zero,rfl,?_,a2_ _,tk.zone⟩) o.dst (iF_ k _ 0)
   rw[heap_alloc_new,← hc,Array.toArray_toList]
 ·cases h
theorem qc_ {P:Program} {o:Oper} {T:TypeId} {x:Operand} (ho:o.op=.box T x):aS_ P o (uI_ o.dst T x):=by
 intro ds pn S side e fp h hside S1 hs hf
 have ex:=hs.1 x (by simp[ho,Op.operands])
 unfold uI_ at h
 rw[← ex] at h
 split at h
 ·rename_i k hd
  cases h
  have hk:S1.has k=false:=hf _ (List.mem_singleton.2 rfl)
  refine Core.world fun w0 I0 F I β a w hr=>?_
  have hx:=he_ (hr.ev x) hside
  refine⟨.pointer (some ⟨w.heap.size,0,none⟩),w.alloc (.cells (a.eval x).cells T),I,upd β k (.pointer (some ⟨w.heap.size,0,none⟩)),?_,?_⟩
  ·simp[execOp,ho,Instr.box,newVar,newRow]
  ·rw[dX_]
   refine Rel.put (hr.alloc (b:=.cells T (S1.ev x).cells) (y:=.pointer (some ⟨w.heap.size,0,none⟩)) hk rfl ⟨w.heap.size,(a.eval x).cells.toList,rfl,?_,?_,eV_ hx hside⟩) o.dst (iF_ k _ 0)
   ·rw[heap_alloc_new,Array.toArray_toList]
   ·refine DenAs.mono ⟨fun _ h=>h,fun n hn=>fa_ w _ n (hr.mem.im n hn)⟩ _ _ (fun j hj=>upd_other _ _ fun e=>?_) hx
    subst e
    rw[lA_ (wb_ hk x)] at hj
    cases hj
 ·cases h
end Go.Xe
namespace Go.Xe
open Go.RowKit
variable [Glob]
def setL:List AV→Nat→List AV→List AV
 | cs,_,[]=>cs
 | cs,off,x::xs=>setL (cs.set off x) (off+1) xs
def i4_:List Value→Nat→List Value→List Value
 | cs,_,[]=>cs
 | cs,off,x::xs=>i4_ (cs.set off x) (off+1) xs
theorem hE_:∀ (xs cs:List Value) (off:Nat),off+xs.length≤cs.length→i4_ cs off xs=cs.take off++xs++cs.drop (off+xs.length)
 | [],cs,off,_=>by simp[i4_]
 | x::xs,cs,off,h=>by
  simp only[List.length_cons] at h
  rw[i4_,hE_ xs (cs.set off x) (off+1) (by simp;omega)]
  have:=list_seg_step cs off x xs (by omega)
  simpa [Nat.add_assoc,Nat.add_comm 1] using this
theorem ef_:∀ (xs cs:List Value) (off:Nat),(i4_ cs off xs).length=cs.length
 | [],_,_=>rfl
 | x::xs,cs,off=>by rw[i4_,ef_];simp
theorem m6_ (l us:List Value) {m off:Nat} (h:off+us.length≤m) (hm:m≤l.length) :
  (l.take off++us++l.drop (off+us.length)).take m=(l.take m).take off++us++(l.take m).drop (off+us.length):=by
 have hl:(l.take off++us).length=off+us.length:=by simp;omega
 rw[List.take_append,hl,List.take_of_length_le (by omega),List.take_take,Nat.min_eq_left (by omega),List.drop_take]
theorem eS_ {w:World} {T:TypeId} {sz n n' c' b:Nat} {vs us:List Value} {off:Nat} (how:w.ownsRow 0 T sz (.slice (some ⟨b,0,none⟩) n' c') n vs) (hfit:off+us.length≤vs.length) :
  ∃ cur:Array Value,w.heap[b]? = some (.cells cur T (0,0))∧off+us.length≤cur.size ∧
   (w.setRow b (cur.toList.take off++us++cur.toList.drop (off+us.length)).toArray).ownsRow 0 T sz (.slice (some ⟨b,0,none⟩) n' c') n (i4_ vs off us):=by
 obtain⟨hlv,hcase⟩:=how
 rcases hcase with⟨hnil,_⟩|⟨g,cap,cur,hcur,hb0,hg,hn,hcm,hcs,htk⟩
 ·cases hnil
 cases hcur
 have hvc:vs.length≤cur.size:=by rw[← htk];simp[List.length_take];omega
 refine⟨cur,hg,by omega,⟨by rw[ef_];exact hlv,.inr ⟨b,c',_,rfl,hb0,setRow_heap w b _ _ _ _ hg,hn,hcm,by simp;omega,?_⟩⟩⟩
 have e1:(cur.toList.take off++us++cur.toList.drop (off+us.length)).toArray.toList=i4_ cur.toList off us:=by
  rw[hE_ _ _ _ (by simpa using (by omega:off+us.length≤cur.size))]
 rw[e1,hE_ _ _ _ hfit,hE_ _ _ _ (by simpa using (by omega:off+us.length≤cur.size)),← htk]
 exact m6_ _ _ (by omega) (by simp;rw[hcs];exact Nat.mul_le_mul_right _ hn)
theorem DenAs.setL {w:World} {I:Nat→Prop} {β:Nat→Value}:∀ {xs:List AV} {us:List Value} (_:DenAs w I β xs us) {cs:List AV} {vs:List Value} (_:DenAs w I β cs vs) (off:Nat),DenAs w I β (setL cs off xs) (i4_ vs off us)
 | [],_,h',_,_,h,_=>by rw[DenAs] at h';subst h';exact h
 | _::_,_,h',_,_,h,off=>by obtain⟨v,vs',rfl,h1,h2⟩:=h';exact DenAs.setL h2 (DenAs.set h1 h off) (off+1)
theorem setL_length:∀ (xs cs:List AV) (off:Nat),(setL cs off xs).length=cs.length
 | [],_,_=>rfl
 | x::xs,cs,off=>by rw[setL,setL_length];simp
theorem mem_setV:∀ (xs cs:List Value) (off:Nat) (v:Value),v∈i4_ cs off xs→v∈cs∨v∈xs
 | [],_,_,_,h=>.inl h
 | x::xs,cs,off,v,h=>by
  rcases mem_setV xs _ _ v h with h|h
  ·rcases List.mem_or_eq_of_mem_set h with h|rfl
   ·exact .inl h
   ·exact .inr (by simp)
  ·exact .inr (by simp[h])
/-! ### load -/
def cQ_ (e:TE) (off n:Nat):Prop:=off+e.size≤n∧(e.k.agg=false→e.size=1)
def fs_ (e:TE) (off:Nat) (cs:List AV):AV:=match e.k.agg with|true=>.agg ((cs.drop off).take e.size)|false=>(cs[off]?).getD (.d .any)
def np_ (e:TE) (cs:List D):D:=match e.k.agg with|true=>.agg (cs.take e.size)|false=>(cs[0]?).getD .any
def xq_ (te:TE) (bx:Bxs):AV→OpR
 | .ptr k off=>match getB bx k with
  | some (.cells _ cs)=>some (cQ_ te off cs.length,⟨fs_ te off cs,[],[],[]⟩,[k])
  | _=>none
 | .rptr k off=>match getB bx k with
  | some (.row _ _ _ cs)=>some (cQ_ te off cs.length,⟨fs_ te off cs,[],[],[]⟩,[k])
  | _=>none
 | .d (.ip cs)=>some (cQ_ te 0 cs.length,⟨.d (np_ te cs),[],[],[]⟩,[])
 | _=>none
def o5_ (τ:Tab) (T:TypeId) (x:Operand) (S:St):OpR:=(τ T).bind fun te=>xq_ te S.bx (S.ev x)
section
variable {P:Program} {T:TypeId} {e:TE} {w:World} {I:Nat→Prop} {β:Nat→Value}
theorem cE_ (h:TyOk P T e) {b off:Nat} {us:List Value} (hc:∀ j v,us[j]? = some v→w.cell? ⟨b,off+j,none⟩=some v) (hl:us.length=e.size) (h1:e.k.agg=false→e.size=1) :
  (loadVar T ⟨b,off,none⟩).run P w=.ok (if e.k.agg=true then .agg us.toArray else us.getD 0 undef) w:=by
 unfold loadVar
 rw[Sem.run_bind,h.isAgg w,Result.andThen_ok]
 cases ha:e.k.agg with
 | true =>
  simp only[if_true,Sem.run_bind,h.size w,Result.andThen_ok]
  rw[← hl,run_loadCells_list (P:=P) w ⟨b,off,none⟩ us (fun j v hv=>by rw[Addr.add_lit];exact hc j v hv)]
  rfl
 | false =>
  have h1:=h1 ha
  rw[h1] at hl
  obtain⟨u,rfl⟩:=List.length_eq_one_iff.1 hl
  have:=hc 0 u rfl
  simp only[Nat.add_zero] at this
  simp[run_load,this]
theorem bV_ {cs:List AV} {vs:List Value} (h:DenAs w I β cs vs) {off:Nat} (hs:cQ_ e off cs.length) :
  DenA w I β (fs_ e off cs) (if e.k.agg=true then .agg ((vs.drop off).take e.size).toArray else ((vs.drop off).take e.size).getD 0 undef):=by
 unfold fs_
 cases ha:e.k.agg with
 | true=>exact⟨_,rfl,(h.drop off).take e.size⟩
 | false =>
  have h1:=hs.2 ha
  have hlt:off<cs.length:=by have:=hs.1;omega
  obtain⟨y,hy,hd⟩:=h.get (List.getElem?_eq_getElem hlt)
  simp only[List.getElem?_eq_getElem hlt,Option.getD_some,Bool.false_eq_true,if_false]
  have:((vs.drop off).take e.size).getD 0 undef=y:=by
   rw[h1];simp[hy]
  rw[this];exact hd
end
theorem ne_ {P:Program} {τ:Tab} (hτ:aq_ P τ) {o:Oper} {T:TypeId} {x:Operand} (ho:o.op=.load T x):aS_ P o (o5_ τ T x):=by
 intro ds pn S side e fp h hside S1 hs _
 have ex:=hs.1 x (by simp[ho,Op.operands])
 unfold o5_ at h
 cases ht:τ T with
 | none=>rw[ht] at h;cases h
 | some te =>
  have tk:=hτ T te ht
  rw[ht,Option.bind_some,← ex] at h
  have key:∀ w0 I0 F I β a w,Rel ds w0 I0 F S1 I β a w→∀ (b off:Nat) (us:List Value) (v:AV),a.eval x=.pointer (some ⟨b,off,none⟩)→(∀ j v,us[j]? = some v→w.cell? ⟨b,off+j,none⟩=some v)→us.length=te.size→(te.k.agg=false→te.size=1) →
    DenA w I β v (if te.k.agg=true then .agg us.toArray else us.getD 0 undef)→∃ y,(execOp a.eval o).run P w=.ok (.value y) w∧DenA w I β v y:=by
   intro w0 I0 F I β a w hr b off us v he hc hl h1 hd
   refine⟨_,?_,hd⟩
   simp[execOp,ho,Instr.loadAt,he,Instr.sureAddr,cE_ tk hc hl h1]
  unfold xq_ at h
  split at h
  ·rename_i k off hx
   split at h
   ·rename_i T' cs hb
    cases h
    have hb1:getB S1.bx k=some (.cells T' cs):=by rw[hs.2.2 k (by simp)];exact hb
    refine Core.value fun w0 I0 F I β a w hr=>?_
    have hv:=hr.ev x
    rw[hx] at hv
    obtain⟨b,e1,e2⟩:=hv
    obtain⟨b',vs,e3,hh,hd,_⟩:=hr.mem.bxs k _ hb1
    rw[e1] at e3
    cases e3
    have hl:vs.length=cs.length:=hd.length.symm
    refine key w0 I0 F I β a w hr b off ((vs.drop off).take te.size) _ e2 (fun j v hj=>?_) (by have:=hside.1;simp;omega) hside.2 (bV_ hd hside)
    rw[cell_of_row w b (off+j) _ _ _ hh]
    simp only[List.getElem?_take,List.getElem?_drop] at hj
    split at hj
    ·simpa using hj
    ·cases hj
   ·cases h
  ·rename_i k off hx
   split at h
   ·rename_i T' sz n cs hb
    cases h
    have hb1:getB S1.bx k=some (.row T' sz n cs):=by rw[hs.2.2 k (by simp)];exact hb
    refine Core.value fun w0 I0 F I β a w hr=>?_
    have hv:=hr.ev x
    rw[hx] at hv
    obtain⟨b,n',c',e1,e2⟩:=hv
    obtain⟨vs,how,hd,_⟩:=hr.mem.bxs k _ hb1
    rw[e1] at how
    have hcell:=how.cells (g:=b) rfl
    have hl:vs.length=cs.length:=hd.length.symm
    refine key w0 I0 F I β a w hr b off ((vs.drop off).take te.size) _ e2 (fun j v hj=>?_) (by have:=hside.1;simp;omega) hside.2 (bV_ hd hside)
    simp only[List.getElem?_take,List.getElem?_drop] at hj
    split at hj
    ·have:=hcell (off+j) v hj
     rwa[Addr.add_lit,Nat.zero_add] at this
    ·cases hj
   ·cases h
  ·rename_i cs hx
   cases h
   refine Core.value fun w0 I0 F I β a w hr=>?_
   have hv:=hr.ev x
   rw[hx,DenA,Den] at hv
   obtain⟨b,off,e1,hat⟩:=hv
   obtain⟨vs,hd,_,hc⟩:=hat.dens
   have hl:vs.length=cs.length:=hd.length.symm
   have hda:DenAs w I β (cs.map .d) vs:=DenAs.of_dens hd
   have hda':=bV_ (e:=te) hda (off:=0) (by simpa [cQ_] using hside)
   simp only[List.drop_zero] at hda'
   refine key w0 I0 F I β a w hr b off (vs.take te.size) _ e1 (fun j v hj=>?_) (by have:=hside.1;simp;omega) hside.2 ?_
   ·simp only[List.getElem?_take] at hj
    split at hj
    ·exact hc j v hj
    ·cases hj
   ·revert hda'
    unfold fs_ np_
    cases te.k.agg with
    | true =>
     intro hh
     obtain⟨us,e,hh⟩:=hh
     refine⟨us,e,?_⟩
     rw[List.drop_zero,← List.map_take] at hh
     exact DenAs.to_dens hh
    | false =>
     intro hh
     cases cs with
     | nil=>simp only[List.getElem?_nil,Option.getD_none];exact aW_ _ _ _ _
     | cons c cs=>simpa using hh
  ·cases h
/-! ### store -/
def rx_ (te:TE) (bx:Bxs) (v:AV):AV→OpR
 | .ptr k off=>match getB bx k with
  | some (.cells T cs)=>some (v.cells.length=te.size∧off+te.size≤cs.length∧(∀ c∈v.cells,oneA c=true),⟨.d .any,[],[(k,.cells T (setL cs off v.cells))],[]⟩,[k])
  | _=>none
 | .rptr k off=>match getB bx k with
  | some (.row T sz n cs)=>some (v.cells.length=te.size∧off+te.size≤cs.length∧(∀ c∈v.cells,oneA c=true),⟨.d .any,[],[(k,.row T sz n (setL cs off v.cells))],[]⟩,[k])
  | _=>none
 | _=>none
def j8_ (τ:Tab) (T:TypeId) (x v:Operand) (S:St):OpR:=(τ T).bind fun te=>rx_ te S.bx (S.ev v) (S.ev x)
theorem aU_ (w:World) (g:Nat) (cs:Array Value):Gb w (w.setRow g cs) (some g) :=
 ⟨⟨rfl,rfl,rfl,by simp,fun k _ hk=>setRow_other w g k cs (fun e=>hk (by rw[e]))⟩,Nat.le_refl _⟩
theorem lb_ {P:Program} {τ:Tab} (hτ:aq_ P τ) {o:Oper} {T:TypeId} {x v:Operand} (ho:o.op=.store T x v):aS_ P o (j8_ τ T x v):=by
 intro ds pn S side e fp h hside S1 hs _
 have ex:=hs.1 x (by simp[ho,Op.operands])
 have ev:=hs.1 v (by simp[ho,Op.operands])
 unfold j8_ at h
 cases ht:τ T with
 | none=>rw[ht] at h;cases h
 | some te =>
  have tk:=hτ T te ht
  rw[ht,Option.bind_some,← ex,← ev] at h
  have und:∀ w I β (d:Option Tmp) (y:Value),DenA w I β (.d .any) y:=fun _ _ _ _ _=>aW_ _ _ _ _
  unfold rx_ at h
  split at h
  ·rename_i k off hx
   split at h
   ·rename_i T' cs hb
    cases h
    have hb1:getB S1.bx k=some (.cells T' cs):=by rw[hs.2.2 k (by simp)];exact hb
    refine Core.skip fun w0 I0 F I β a w hr=>?_
    have hv:=hr.ev x
    rw[hx] at hv
    obtain⟨b,e1,e2⟩:=hv
    obtain⟨b',vs,e3,hh,hd,h1⟩:=hr.mem.bxs k _ hb1
    rw[e1] at e3
    cases e3
    have hval:=he_ (hr.ev v) hside.2.2
    have hone:=eV_ hval hside.2.2
    have hlen:(a.eval v).cells.toList.length=te.size:=by rw[← hval.length];exact hside.1
    have hfit:off+(a.eval v).cells.toList.length≤vs.length:=by rw[hlen,← hd.length];exact hside.2.1
    have hst:=run_storeCells_at P b off T' (a.eval v).cells.toList 0 vs.toArray w hh (by simpa using hfit) hone
    simp only[Nat.add_zero] at hst
    rw[← hE_ _ _ _ hfit] at hst
    refine⟨w.setRow b (i4_ vs off (a.eval v).cells.toList).toArray,I,β,?_,?_⟩
    rotate_left
    ·rw[bQ_]
     refine Rel.put (S:=⟨S1.sl,setB S1.bx k (.cells T' (setL cs off (S1.ev v).cells)),S1.df⟩) (w:=w.setRow b (i4_ vs off (a.eval v).cells.toList).toArray) ⟨hr.mem.turn (b':=.cells T' (setL cs off (S1.ev v).cells)) hb1 (by rw[e1];exact aU_ w b _) ?_,?_,hr.dn,hr.fx⟩ o.dst (und _ _ _ o.dst _)
     ·have hk:Kept w I (w.setRow b (i4_ vs off (a.eval v).cells.toList).toArray) I :=
       ⟨fun _ h=>h,fun n hn=>setRow_other w b n _ (fun e=>(hr.mem.sep k _ b hb1 (by rw[e1];exact .inl rfl)).1 (e▸hn))⟩
      refine⟨b,i4_ vs off (a.eval v).cells.toList,e1,setRow_heap w b _ _ _ _ hh,DenAs.setL (DenAs.mono hk _ _ (fun _ _=>rfl) hval) (DenAs.mono hk _ _ (fun _ _=>rfl) hd) off,fun u hu=>?_⟩
      rcases mem_setV _ _ _ _ hu with hu|hu
      ·exact h1 u hu
      ·exact hone u hu
     ·refine DenAs.mono ⟨fun _ h=>h,fun n hn=>setRow_other w b n _ (fun e=>(hr.mem.sep k _ b hb1 (by rw[e1];exact .inl rfl)).1 (e▸hn))⟩ _ _ (fun _ _=>rfl) hr.sl
    ·simp[execOp,ho,Instr.storeAt,e2,Instr.sureAddr,storeVar,tk.size,hst]
     simpa using hlen
   ·cases h
  ·rename_i k off hx
   split at h
   ·rename_i T' sz n cs hb
    cases h
    have hb1:getB S1.bx k=some (.row T' sz n cs):=by rw[hs.2.2 k (by simp)];exact hb
    refine Core.skip fun w0 I0 F I β a w hr=>?_
    have hv:=hr.ev x
    rw[hx] at hv
    obtain⟨b,n',c',e1,e2⟩:=hv
    obtain⟨vs,how,hd,h1⟩:=hr.mem.bxs k _ hb1
    rw[e1] at how
    have hval:=he_ (hr.ev v) hside.2.2
    have hone:=eV_ hval hside.2.2
    have hlen:(a.eval v).cells.toList.length=te.size:=by rw[← hval.length];exact hside.1
    have hfit:off+(a.eval v).cells.toList.length≤vs.length:=by rw[hlen,← hd.length];exact hside.2.1
    obtain⟨cur,hg,hfc,hown⟩:=eS_ how hfit
    have hst:=run_storeCells_at P b off T' (a.eval v).cells.toList 0 cur w hg (by simpa only[Nat.add_zero] using hfc) hone
    simp only[Nat.add_zero] at hst
    refine⟨w.setRow b (cur.toList.take off++(a.eval v).cells.toList++cur.toList.drop (off+(a.eval v).cells.toList.length)).toArray,I,β,?_,?_⟩
    rotate_left
    ·rw[bQ_]
     have hk:∀ r,Kept w I (w.setRow b r) I:=fun r =>
       ⟨fun _ h=>h,fun n hn=>setRow_other w b n _ (fun e=>(hr.mem.sep k _ b hb1 (by rw[e1];exact .inl rfl)).1 (e▸hn))⟩
     refine Rel.put (S:=⟨S1.sl,setB S1.bx k (.row T' sz n (setL cs off (S1.ev v).cells)),S1.df⟩) (w:=w.setRow b (cur.toList.take off++(a.eval v).cells.toList++cur.toList.drop (off+(a.eval v).cells.toList.length)).toArray) ⟨hr.mem.turn (b':=.row T' sz n (setL cs off (S1.ev v).cells)) hb1 (by rw[e1];exact aU_ w b _) ?_,?_,hr.dn,hr.fx⟩ o.dst (und _ _ _ o.dst _)
     ·rw[e1]
      refine⟨i4_ vs off (a.eval v).cells.toList,hown,DenAs.setL (DenAs.mono (hk _) _ _ (fun _ _=>rfl) hval) (DenAs.mono (hk _) _ _ (fun _ _=>rfl) hd) off,fun u hu=>?_⟩
      rcases mem_setV _ _ _ _ hu with hu|hu
      ·exact h1 u hu
      ·exact hone u hu
     ·exact DenAs.mono (hk _) _ _ (fun _ _=>rfl) hr.sl
    ·simp[execOp,ho,Instr.storeAt,e2,Instr.sureAddr,storeVar,tk.size,hst]
     simpa using hlen
   ·cases h
  ·cases h
end Go.Xe
namespace Go.Xe
open Go.RowKit
variable [Glob]
/-! ### nilCheck -/
def BV_ (x:AV):OpR :=
 match x with
 | .ptr .. | .rptr .. | .d (.ip _)=>okV x
 | .fn (.func _) _ _=>okV x
 | .d (.v (.func (.func _) _ _))=>okV x
 | _=>none
def uE_ (x:Operand) (S:St):OpR:=BV_ (S.ev x)
theorem p8_ {P:Program} {o:Oper} {x:Operand} (ho:o.op=.nilCheck x):aS_ P o (uE_ x):=by
 intro ds pn S side e fp h _ S1 hs _
 have ex:=hs.1 x (by simp[ho,Op.operands])
 unfold uE_ at h
 rw[← ex] at h
 have he:e=⟨S1.ev x,[],[],[]⟩:=by
  unfold BV_ at h
  split at h<;>first|(cases h;rfl)|(cases h)
 subst he
 refine Core.value fun w0 I0 F I β a w hr=>⟨a.eval x,?_,hr.ev x⟩
 have hv:=hr.ev x
 unfold BV_ at h
 split at h
 ·rename_i k off hx;rw[hx] at hv;obtain⟨b,_,e2⟩:=hv;simp[execOp,ho,e2]
 ·rename_i k off hx;rw[hx] at hv;obtain⟨b,n,c,_,e2⟩:=hv;simp[execOp,ho,e2]
 ·rename_i cs hx;rw[hx,DenA,Den] at hv;obtain⟨b,off,e2,_⟩:=hv;simp[execOp,ho,e2]
 ·rename_i f a1 a2 hx;rw[hx] at hv;obtain⟨v1,v2,e2,_⟩:=hv;simp[execOp,ho,e2]
 ·rename_i f a1 a2 hx;rw[hx,DenA_v] at hv;simp[execOp,ho,hv]
 ·cases h
/-! ### binOp -/
def shN (k:IntKind) (b:Int):Nat:=min b.toNat k.bits
def binI (op:BinOp) (k:IntKind) (a b:Int):Option (Prop×Value) :=
 match op with
 | .add=>some (True,.int k (k.wrap (a+b)))
 | .sub=>some (True,.int k (k.wrap (a-b)))
 | .mul=>some (True,.int k (k.wrap (a*b)))
 | .quo=>some (b≠0,.int k (k.wrap (a.tdiv b)))
 | .rem=>some (b≠0,.int k (a.tmod b))
 | .and=>some (True,.int k (bits .and k a b))
 | .or=>some (True,.int k (bits .or k a b))
 | .xor=>some (True,.int k (bits .xor k a b))
 | .andNot=>some (True,.int k (bits .andNot k a b))
 | .eql=>some (True,.bool (decide (a=b)))
 | .neq=>some (True,.bool (!decide (a=b)))
 | .lss=>some (True,.bool (decide (a<b)))
 | .leq=>some (True,.bool (decide (a≤b)))
 | .gtr=>some (True,.bool (decide (b<a)))
 | .geq=>some (True,.bool (decide (b≤a)))
 | _=>none
def binS (op:BinOp) (a b:ByteArray):Option (Prop×Value) :=
 match op with
 | .eql=>some (True,.bool (decide (a=b)))
 | .neq=>some (True,.bool (!decide (a=b)))
 | .lss=>some (True,.bool (Op.bytesLess a.data.toList b.data.toList))
 | .gtr=>some (True,.bool (!(Op.bytesLess a.data.toList b.data.toList||decide (a=b))))
 | .add=>some (a.size+b.size≤9223372036854775807,.string (a++b))
 | _=>none
def yc_ (op:BinOp) (x y:Value):Option (Prop×Value) :=
 match x,y with
 | .int k a,.int k' b =>
  match op with
  | .shl=>some (0≤b,.int k (k.wrap (a*2^shN k b)))
  | .shr=>some (0≤b,.int k (a.fdiv (2^shN k b)))
  | op=>if k=k' then binI op k a b else none
 | .string a,.string b=>binS op a b
 | _,_=>none
theorem d6_ (a b:ByteArray):(a.toList == b.toList)=decide (a=b):=by
 rw[ByteArray.toList_eq,ByteArray.toList_eq,Bool.eq_iff_iff]
 simp only[beq_iff_eq,decide_eq_true_eq]
 constructor
 ·intro h;cases a;cases b;simp at h;simp[h]
 ·rintro rfl;rfl
theorem yd_ (a b:Int):(a == b)=decide (a=b):=by rw[Bool.eq_iff_iff];simp
theorem ut_ {P:Program} {w:World} {op:BinOp} {T:TypeId} {x y v:Value} {side:Prop} (h:yc_ op x y=some (side,v)) (hs:side):(binOp op T x y).run P w=.ok v w:=by
 unfold yc_ at h
 split at h
 ·rename_i k a k' b
  split at h
  ·cases h
   simp only[binOp,Op.shift]
   rw[if_neg (by omega)];rfl
  ·cases h
   simp only[binOp,Op.shift]
   rw[if_neg (by omega)];rfl
  ·rename_i h1 h2
   split at h
   ·rename_i hk
    subst hk
    cases op<;>simp only[binI,Option.some.injEq,Prod.mk.injEq,reduceCtorEq] at h<;>try (obtain⟨rfl,rfl⟩:=h)
    all_goals first
     | (exact absurd rfl h1)
     | (exact absurd rfl h2)
     | (simp[binOp,Op.intArith];done)
     | (simp[binOp,Op.intDiv,hs];done)
     | (simp[binOp,Op.intBits,bits];done)
     | (simp[binOp,Op.intCmp,yd_,bne];done)
   ·cases h
 ·rename_i a b
  cases op<;>simp only[binS,Option.some.injEq,Prod.mk.injEq,reduceCtorEq] at h<;>try (obtain⟨rfl,rfl⟩:=h)
  all_goals first
   | (simp only[binOp,Op.stringOp,d6_];rfl)
   | (simp only[binOp,Op.stringOp];rw[d6_,ByteArray.toList_eq,ByteArray.toList_eq];rfl)
   | (simp only[binOp,Op.stringOp];rw[ByteArray.toList_eq,ByteArray.toList_eq];rfl)
   | (simp only[binOp,Op.stringOp,IntKind.max,IntKind.bits,IntKind.signed];rw[if_neg (by have:=hs;simp;omega)];rfl)
 ·cases h
def uJ_ (op:BinOp) (x y:Operand) (S:St):OpR :=
 match S.ev x,S.ev y with
 | .d (.v a),.d (.v b)=>(yc_ op a b).bind fun r=>some (r.1,⟨.d (.v r.2),[],[],[]⟩,[])
 | _,_=>none
theorem qI_ {P:Program} {w:World} {op:BinOp} {T:TypeId} {x y:Operand} {a b:Value} {r:Prop×Value} (h:yc_ op a b=some r):(eqGuard op T x y a b).run P w=.ok () w:=by
 unfold yc_ at h
 split at h
 ·cases op<;>rfl
 ·cases op<;>rfl
 ·cases h
theorem qd_ {P:Program} {o:Oper} {op:BinOp} {T T':TypeId} {x y:Operand} (ho:o.op=.binOp op T x y T'):aS_ P o (uJ_ op x y):=by
 intro ds pn S side e fp h hside S1 hs _
 have ex:=hs.1 x (by simp[ho,Op.operands])
 have ey:=hs.1 y (by simp[ho,Op.operands])
 unfold uJ_ at h
 rw[← ex,← ey] at h
 split at h
 ·rename_i a b hx hy
  cases hb:yc_ op a b with
  | none=>rw[hb] at h;cases h
  | some r =>
   obtain⟨sd,v⟩:=r
   rw[hb] at h
   cases h
   refine Core.value fun w0 I0 F I β A w hr=>⟨v,?_,DenA_v.2 rfl⟩
   have h1:=hr.ev x
   have h2:=hr.ev y
   rw[hx,DenA_v] at h1
   rw[hy,DenA_v] at h2
   simp[execOp,ho,h1,h2,qI_ (P:=P) (w:=w) (T:=T) (x:=x) (y:=y) hb,ut_ (P:=P) (w:=w) (T:=T) hb hside]
 ·cases h
/-! ### unOp -/
def unV (op:UnOp) (x:Value):Option Value :=
 match op,x with
 | .neg,.int k n=>some (.int k (k.wrap (0-n)))
 | .xor,.int k n=>some (.int k (bits .xor k (if k.signed then -1 else k.max) n))
 | .not,.bool b=>some (.bool (!b))
 | _,_=>none
def BT_ (op:UnOp) (x:Operand) (S:St):OpR :=
 match S.ev x with
 | .d (.v a)=>(unV op a).bind fun r=>okV (.d (.v r))
 | _=>none
theorem rH_ {P:Program} {o:Oper} {op:UnOp} {T:TypeId} {x:Operand} (ho:o.op=.unOp op T x):aS_ P o (BT_ op x):=by
 intro ds pn S side e fp h hside S1 hs _
 have ex:=hs.1 x (by simp[ho,Op.operands])
 unfold BT_ at h
 rw[← ex] at h
 split at h
 ·rename_i a hx
  cases hb:unV op a with
  | none=>rw[hb] at h;cases h
  | some v =>
   rw[hb] at h
   cases h
   refine Core.value fun w0 I0 F I β A w hr=>⟨v,?_,DenA_v.2 rfl⟩
   have h1:=hr.ev x
   rw[hx,DenA_v] at h1
   unfold unV at hb
   split at hb<;>cases hb<;>simp[execOp,ho,h1,Op.unary,Op.intArith,Op.intBits,bits]
 ·cases h
/-! ### makeFunc, extract -/
def o6_ (f:Fn) (first caps:Array Operand) (S:St):OpR:=okV (.fn f (first.toList.map S.ev) (caps.toList.map S.ev))
theorem dF_ {ds:Dn} {w0:World} {I0 F:Nat→Prop} {S:St} {I:Nat→Prop} {β:Nat→Value} {a:Act} {w:World} (hr:Rel ds w0 I0 F S I β a w):∀ l:List Operand,DenAs w I β (l.map S.ev) (l.map a.eval)
 | []=>rfl
 | x::l=>⟨_,_,rfl,hr.ev x,dF_ hr l⟩
theorem nf_ {P:Program} {o:Oper} {f:Fn} {first caps:Array Operand} (ho:o.op=.makeFunc f first caps):aS_ P o (o6_ f first caps):=by
 intro ds pn S side e fp h hside S1 hs _
 have e1:∀ l:List Operand,(∀ x∈l,x∈o.op.operands)→l.map S.ev=l.map S1.ev:=fun l hl=>List.map_congr_left fun x hx=>(hs.1 x (hl x hx)).symm
 unfold o6_ at h
 rw[e1 _ (fun x hx=>by simp[ho,Op.operands];exact .inl (by simpa using hx)),e1 _ (fun x hx=>by simp[ho,Op.operands];exact .inr (by simpa using hx))] at h
 cases h
 refine Core.value fun w0 I0 F I β A w hr=>⟨.func f (first.map A.eval) (caps.map A.eval),by simp[execOp,ho,Instr.makeFunc],(first.map A.eval).toList,(caps.map A.eval).toList,by rw[Array.toArray_toList,Array.toArray_toList],?_,?_⟩
 ·rw[Array.toList_map];exact dF_ hr _
 ·rw[Array.toList_map];exact dF_ hr _
def eT_ (t:Operand) (i:Nat) (S:St):OpR :=
 match S.ev t with
 | .tup cs=>(cs[i]?).bind okV
 | .d (.tup cs)=>(cs[i]?).bind fun x=>okV (.d x)
 | _=>none
theorem iJ_ {P:Program} {o:Oper} {t:Operand} {i:Nat} (ho:o.op=.extract t i):aS_ P o (eT_ t i):=by
 intro ds pn S side e fp h hside S1 hs _
 have ex:=hs.1 t (by simp[ho,Op.operands])
 unfold eT_ at h
 rw[← ex] at h
 have key:∀ (cs:List AV) (x:AV),cs[i]? = some x→(∀ w0 I0 F I β a w,Rel ds w0 I0 F S1 I β a w→∃ vs:List Value,a.eval t=.tuple vs.toArray∧DenAs w I β cs vs)→Core P ds pn o S1 (S1.app o.dst ⟨x,[],[],[]⟩):=by
  intro cs x hx hh
  refine Core.value fun w0 I0 F I β A w hr=>?_
  obtain⟨vs,e1,hd⟩:=hh w0 I0 F I β A w hr
  obtain⟨y,hy,hyd⟩:=hd.get hx
  exact⟨y,by simp[execOp,ho,e1,Instr.extract,hy],hyd⟩
 split at h
 ·rename_i cs hx
  cases hc:cs[i]? with
  | none=>rw[hc] at h;cases h
  | some x =>
   rw[hc] at h;cases h
   exact key cs x hc fun w0 I0 F I β a w hr=>by have hv:=hr.ev t;rw[hx] at hv;exact hv
 ·rename_i cs hx
  cases hc:cs[i]? with
  | none=>rw[hc] at h;cases h
  | some x =>
   rw[hc] at h;cases h
   refine key (cs.map .d) (.d x) (by simp[hc]) fun w0 I0 F I β a w hr=>?_
   have hv:=hr.ev t
   rw[hx,DenA,Den] at hv
   obtain⟨vs,e1,hd⟩:=hv
   exact⟨vs,e1,DenAs.of_dens hd⟩
 ·cases h
/-! ### fieldAddr, field -/
def eq_ (τ:Tab) (T:TypeId) (i:Nat):Option (Nat×TE) :=
 match τ T with
 | some ⟨.struct fs,_,_,_⟩=>match fs[i]? with
  | some (off,ft)=>match τ ft with
   | some te=>if te.size=0 then none else some (off,te)
   | none=>none
  | none=>none
 | _=>none
def dQ_ (off:Nat) (x:AV):Option AV :=
 match x with
 | .ptr k j=>some (.ptr k (j+off))
 | .rptr k j=>some (.rptr k (j+off))
 | .d (.ip cs)=>some (.d (.ip (cs.drop off)))
 | _=>none
def cR_ (τ:Tab) (T:TypeId) (x:Operand) (i:Nat) (S:St):OpR :=
 (eq_ τ T i).bind fun r=>(dQ_ r.1 (S.ev x)).bind okV
theorem js_ {P:Program} {τ:Tab} (hτ:aq_ P τ) {T:TypeId} {i off:Nat} {te:TE} (h:eq_ τ T i=some (off,te)) :
  ∃ (fs:Array Field) (f:Field),P.underlying T=some (.struct fs)∧fs[i]? = some f∧f.offset=off∧TyOk P f.type te∧te.size≠0:=by
 unfold eq_ at h
 split at h
 ·rename_i fs _ _ _ ht
  have tk:=hτ T _ ht
  obtain⟨d,hd,fa,rfl,hfs⟩:=tk.und
  split at h
  ·rename_i o ft hi
   split at h
   ·rename_i te' hte
    split at h
    ·cases h
    ·rename_i hz
     cases h
     rw[← hfs] at hi
     simp only[List.getElem?_map,Array.getElem?_toList] at hi
     cases hf:fa[i]? with
     | none=>rw[hf] at hi;cases hi
     | some f=>rw[hf] at hi;cases hi;exact⟨fa,f,hd,hf,rfl,hτ _ _ hte,hz⟩
   ·cases h
  ·cases h
 ·cases h
theorem gA_ {P:Program} {τ:Tab} (hτ:aq_ P τ) {o:Oper} {T:TypeId} {x:Operand} {i:Nat} (ho:o.op=.fieldAddr T x i):aS_ P o (cR_ τ T x i):=by
 intro ds pn S side e fp h hside S1 hs _
 have ex:=hs.1 x (by simp[ho,Op.operands])
 unfold cR_ at h
 rw[← ex] at h
 cases hf:eq_ τ T i with
 | none=>rw[hf] at h;cases h
 | some r =>
  obtain⟨off,te⟩:=r
  rw[hf,Option.bind_some] at h
  obtain⟨fs,f,hu,hfi,hoff,tk,hz⟩:=js_ hτ hf
  have run:∀ (a:Act) (w:World) (b j:Nat),a.eval x=.pointer (some ⟨b,j,none⟩)→(execOp a.eval o).run P w=.ok (.value (.pointer (some ⟨b,j+off,none⟩))) w:=by
   intro a w b j he
   simp[execOp,ho,Instr.fieldAt,run_underlying hu,hfi,he,Instr.sureAddr,fieldPlace,tk.size,hz,hoff,Addr.add_lit]
  cases hx:dQ_ off (S1.ev x) with
  | none=>rw[hx] at h;cases h
  | some v =>
   rw[hx] at h;cases h
   refine Core.value fun w0 I0 F I β A w hr=>?_
   have hv:=hr.ev x
   unfold dQ_ at hx
   split at hx
   ·rename_i k j he
    cases hx
    rw[he] at hv
    obtain⟨b,e1,e2⟩:=hv
    exact⟨_,run A w b j e2,b,e1,rfl⟩
   ·rename_i k j he
    cases hx
    rw[he] at hv
    obtain⟨b,n,c,e1,e2⟩:=hv
    exact⟨_,run A w b j e2,b,n,c,e1,rfl⟩
   ·rename_i cs he
    cases hx
    rw[he,DenA,Den] at hv
    obtain⟨b,j,e2,hd⟩:=hv
    refine⟨_,run A w b j e2,?_⟩
    rw[DenA,Den]
    exact⟨b,j+off,rfl,hd.drop off⟩
   ·cases hx
def sZ_ (off:Nat) (te:TE) (x:AV):OpR :=
 match x with
 | .agg cs=>some (cQ_ te off cs.length,⟨fs_ te off cs,[],[],[]⟩,[])
 | .d (.agg cs)=>some (cQ_ te off cs.length,⟨.d (np_ te (cs.drop off)),[],[],[]⟩,[])
 | _=>none
def kc_ (τ:Tab) (T:TypeId) (x:Operand) (i:Nat) (S:St):OpR :=
 (eq_ τ T i).bind fun r=>sZ_ r.1 r.2 (S.ev x)
theorem gU_ {P:Program} {T:TypeId} {te:TE} (tk:TyOk P T te) {off:Nat} {vs:List Value} (h:cQ_ te off vs.length) (w:World) :
  (part T vs.toArray off).run P w=.ok (if te.k.agg=true then .agg ((vs.drop off).take te.size).toArray else ((vs.drop off).take te.size).getD 0 undef) w:=by
 unfold part
 rw[Sem.run_bind,tk.isAgg w,Result.andThen_ok]
 cases ha:te.k.agg with
 | true =>
  simp only[if_true,Sem.run_bind,tk.size w,Result.andThen_ok,Sem.run_pure,List.extract_toArray]
  rw[List.extract_eq_take_drop]
  simp
 | false =>
  have h1:=h.2 ha
  have hlt:off<vs.length:=by have:=h.1;omega
  simp[h1,hlt]
theorem oS_ {w:World} {I:Nat→Prop} {β:Nat→Value} {te:TE} {off:Nat} {cs:List D} {y:Value} (h:DenA w I β (fs_ te off (cs.map .d)) y) (hs:cQ_ te off cs.length):DenA w I β (.d (np_ te (cs.drop off))) y:=by
 revert h
 unfold fs_ np_
 cases ha:te.k.agg with
 | true =>
  rintro⟨us,e,hh⟩
  rw[DenA,Den]
  refine⟨us,e,?_⟩
  rw[← List.map_drop,← List.map_take] at hh
  exact DenAs.to_dens hh
 | false =>
  intro hh
  simp only[List.getElem?_map,List.getElem?_drop,Nat.add_zero] at hh ⊢
  have hlt:off<cs.length:=by have:=hs.1;have:=hs.2 ha;omega
  simpa [List.getElem?_eq_getElem hlt] using hh
theorem lg_ {P:Program} {τ:Tab} (hτ:aq_ P τ) {o:Oper} {T:TypeId} {x:Operand} {i:Nat} (ho:o.op=.field T x i):aS_ P o (kc_ τ T x i):=by
 intro ds pn S side e fp h hside S1 hs _
 have ex:=hs.1 x (by simp[ho,Op.operands])
 unfold kc_ at h
 rw[← ex] at h
 cases hf:eq_ τ T i with
 | none=>rw[hf] at h;cases h
 | some r =>
  obtain⟨off,te⟩:=r
  rw[hf,Option.bind_some] at h
  obtain⟨fs,f,hu,hfi,hoff,tk,hz⟩:=js_ hτ hf
  unfold sZ_ at h
  split at h
  ·rename_i cs hx
   cases h
   refine Core.value fun w0 I0 F I β A w hr=>?_
   have hv:=hr.ev x
   rw[hx] at hv
   obtain⟨vs,e1,hd⟩:=hv
   have hs':cQ_ te off vs.length:=by rw[← hd.length];exact hside
   exact⟨_,by simp[execOp,ho,Instr.field,run_underlying hu,hfi,e1,asAgg,hoff,gU_ tk hs'],bV_ hd hside⟩
  ·rename_i cs hx
   cases h
   refine Core.value fun w0 I0 F I β A w hr=>?_
   have hv:=hr.ev x
   rw[hx,DenA,Den] at hv
   obtain⟨vs,e1,hd⟩:=hv
   have hl:=hd.length
   have hs':cQ_ te off vs.length:=by rw[← hl];exact hside
   exact⟨_,by simp[execOp,ho,Instr.field,run_underlying hu,hfi,e1,asAgg,hoff,gU_ tk hs'],oS_ (bV_ (e:=te) (DenAs.of_dens (β:=β) hd) (off:=off) (by simpa using hside)) hside⟩
  ·cases h
end Go.Xe
namespace Go.Xe
open Go.RowKit
variable [Glob]
def ph_:AV→Option Int
 | .d (.v (.int _ n))=>some n
 | _=>none
theorem bK_ {w:World} {I:Nat→Prop} {β:Nat→Value} {x:AV} {n:Int} {y:Value} (h:ph_ x=some n) (hd:DenA w I β x y):∃ k,y=.int k n:=by
 unfold ph_ at h
 split at h
 ·rename_i k m;cases h;rw[DenA_v] at hd;exact⟨k,hd⟩
 ·cases h
/-! ### indexAddr -/
def idxA (τ:Tab) (T:TypeId) (bx:Bxs) (x:AV) (n:Int):OpR :=
 match τ T with
 | some ⟨.slice e,_,_,_⟩=>match τ e with
  | some te=>match x with
   | .d (.sl sz cs m _)=>some (0≤n∧n<m∧te.size=sz,⟨.d (.ip ((cs.drop (n.toNat*sz)).take sz)),[],[],[]⟩,[])
   | .psl k off m _=>some (0≤n∧n<m,⟨.ptr k (off+n.toNat*te.size),[],[],[]⟩,[])
   | .rsl k off m=>some (0≤n∧n<m,⟨.rptr k (off+n.toNat*te.size),[],[],[]⟩,[])
   | .row k=>match getB bx k with
    | some (.row _ sz m _)=>some (0≤n∧n<m∧te.size=sz,⟨.rptr k (n.toNat*te.size),[],[],[]⟩,[k])
    | _=>none
   | _=>none
  | none=>none
 | some ⟨.array len e,_,_,_⟩=>match τ e with
  | some te=>match x with
   | .ptr k off=>some (0≤n∧n<len,⟨.ptr k (off+n.toNat*te.size),[],[],[]⟩,[])
   | .rptr k off=>some (0≤n∧n<len,⟨.rptr k (off+n.toNat*te.size),[],[],[]⟩,[])
   | .d (.ip cs)=>some (0≤n∧n<len,⟨.d (.ip (cs.drop (n.toNat*te.size))),[],[],[]⟩,[])
   | _=>none
  | none=>none
 | _=>none
def uG_ (τ:Tab) (T:TypeId) (x i:Operand) (S:St):OpR:=(ph_ (S.ev i)).bind fun n=>idxA τ T S.bx (S.ev x) n
theorem qa_ {P:Program} {τ:Tab} (hτ:aq_ P τ) {o:Oper} {T:TypeId} {x i:Operand} (ho:o.op=.indexAddr T x i):aS_ P o (uG_ τ T x i):=by
 intro ds pn S side e fp h hside S1 hs _
 have ex:=hs.1 x (by simp[ho,Op.operands])
 have ei:=hs.1 i (by simp[ho,Op.operands])
 unfold uG_ at h
 rw[← ex,← ei] at h
 cases hn:ph_ (S1.ev i) with
 | none=>rw[hn] at h;cases h
 | some n =>
  rw[hn,Option.bind_some] at h
  have run1:∀ {el te} (a:Act) (w:World) (y:Value) (b off m c:Nat),P.underlying T=some (.slice el)→TyOk P el te→(∃ k,a.eval i=.int k n)→a.eval x=.slice (some ⟨b,off,none⟩) m c→0≤n→n<m →
    (execOp a.eval o).run P w=.ok (.value (.pointer (some ⟨b,off+n.toNat*te.size,none⟩))) w:=by
   intro el te a w y b off m c hu tk hi hx h0 h1
   obtain⟨k,hi⟩:=hi
   simp[execOp,ho,Instr.indexAt,hi,hx,asIntOf,run_underlying hu,tk.size,h0,h1,Addr.add_lit]
  have run2:∀ {el te} (a:Act) (w:World) (b off len:Nat),P.underlying T=some (.array len el)→TyOk P el te→(∃ k,a.eval i=.int k n)→a.eval x=.pointer (some ⟨b,off,none⟩)→0≤n→n<len →
    (execOp a.eval o).run P w=.ok (.value (.pointer (some ⟨b,off+n.toNat*te.size,none⟩))) w:=by
   intro el te a w b off len hu tk hi hx h0 h1
   obtain⟨k,hi⟩:=hi
   simp[execOp,ho,Instr.indexAt,hi,hx,asIntOf,run_underlying hu,tk.size,h0,h1,Addr.add_lit,Instr.sureAddr]
  unfold idxA at h
  split at h
  ·rename_i el _ _ _ ht
   obtain⟨d,hu,hk⟩:=(hτ T _ ht).und
   simp only[TK.ok] at hk
   subst hk
   split at h
   ·rename_i te hte
    have tk:=hτ el te hte
    split at h
    ·rename_i sz cs m full hx
     cases h
     obtain⟨h0,h1,hsz⟩:=hside
     refine Core.value fun w0 I0 F I β a w hr=>?_
     have hv:=hr.ev x
     rw[hx,DenA,Den] at hv
     obtain⟨ad,cap,e1,_,_,_,hlen,hnil,hat⟩:=hv
     cases ad with
     | none=>have:=(hnil rfl).1;omega
     | some ad =>
      obtain⟨hsp,hat⟩:=hat ad rfl
      have hsp:=hsp (by omega)
      obtain⟨b,off,sp⟩:=ad
      simp only at hsp
      subst hsp
      refine⟨_,run1 a w undef b off m cap hu tk (bK_ hn (hr.ev i)) e1 h0 h1,?_⟩
      rw[DenA,Den]
      exact⟨b,_,rfl,by rw[hsz];exact (hat.drop _).take _⟩
    ·rename_i k off m cap hx
     cases h
     obtain⟨h0,h1⟩:=hside
     refine Core.value fun w0 I0 F I β a w hr=>?_
     have hv:=hr.ev x
     rw[hx] at hv
     obtain⟨b,e1,e2⟩:=hv
     exact⟨_,run1 a w undef b off m cap hu tk (bK_ hn (hr.ev i)) e2 h0 h1,b,e1,rfl⟩
    ·rename_i k off m hx
     cases h
     obtain⟨h0,h1⟩:=hside
     refine Core.value fun w0 I0 F I β a w hr=>?_
     have hv:=hr.ev x
     rw[hx] at hv
     obtain⟨b,m',c,c',e1,e2⟩:=hv
     exact⟨_,run1 a w undef b off m c' hu tk (bK_ hn (hr.ev i)) e2 h0 h1,b,m',c,e1,rfl⟩
    ·rename_i k hx
     split at h
     ·rename_i T' sz m cs hb
      cases h
      obtain⟨h0,h1,hsz⟩:=hside
      have hb1:getB S1.bx k=some (.row T' sz m cs):=by rw[hs.2.2 k (by simp)];exact hb
      refine Core.value fun w0 I0 F I β a w hr=>?_
      have hv:=hr.ev x
      rw[hx,DenA] at hv
      obtain⟨e1,_⟩:=hv
      obtain⟨vs,how,hd,_⟩:=hr.mem.bxs k _ hb1
      rcases how.2 with⟨_,hz⟩|⟨g,cap,cur,hy,_⟩
      ·omega
      ·rw[hy] at e1
       exact⟨_,run1 a w undef g 0 m cap hu tk (bK_ hn (hr.ev i)) e1 h0 h1,g,m,cap,hy,by rw[Nat.zero_add]⟩
     ·cases h
    ·cases h
   ·cases h
  ·rename_i len el _ _ _ ht
   obtain⟨d,hu,hk⟩:=(hτ T _ ht).und
   simp only[TK.ok] at hk
   subst hk
   split at h
   ·rename_i te hte
    have tk:=hτ el te hte
    split at h
    ·rename_i k off hx
     cases h
     refine Core.value fun w0 I0 F I β a w hr=>?_
     have hv:=hr.ev x
     rw[hx] at hv
     obtain⟨b,e1,e2⟩:=hv
     exact⟨_,run2 a w b off len hu tk (bK_ hn (hr.ev i)) e2 hside.1 hside.2,b,e1,rfl⟩
    ·rename_i k off hx
     cases h
     refine Core.value fun w0 I0 F I β a w hr=>?_
     have hv:=hr.ev x
     rw[hx] at hv
     obtain⟨b,m,c,e1,e2⟩:=hv
     exact⟨_,run2 a w b off len hu tk (bK_ hn (hr.ev i)) e2 hside.1 hside.2,b,m,c,e1,rfl⟩
    ·rename_i cs hx
     cases h
     refine Core.value fun w0 I0 F I β a w hr=>?_
     have hv:=hr.ev x
     rw[hx,DenA,Den] at hv
     obtain⟨b,off,e2,hd⟩:=hv
     refine⟨_,run2 a w b off len hu tk (bK_ hn (hr.ev i)) e2 hside.1 hside.2,?_⟩
     rw[DenA,Den]
     exact⟨b,_,rfl,hd.drop _⟩
    ·cases h
   ·cases h
  ·cases h
/-! ### index -/
def Dh_ (τ:Tab) (T:TypeId) (x:AV) (n:Int):OpR :=
 match x with
 | .d (.v (.string s))=>match τ T with
  | some ⟨.string,_,_,_⟩=>some (0≤n∧n<s.size,⟨.d (.v (.int .u8 (s.data.toList.getD n.toNat 0).toNat)),[],[],[]⟩,[])
  | _=>none
 | .agg cs=>match τ T with
  | some ⟨.array len e,_,_,_⟩=>(τ e).bind fun te=>some (0≤n∧n<len∧cQ_ te (n.toNat*te.size) cs.length,⟨fs_ te (n.toNat*te.size) cs,[],[],[]⟩,[])
  | _=>none
 | .d (.agg cs)=>match τ T with
  | some ⟨.array len e,_,_,_⟩=>(τ e).bind fun te=>some (0≤n∧n<len∧cQ_ te (n.toNat*te.size) cs.length,⟨.d (np_ te (cs.drop (n.toNat*te.size))),[],[],[]⟩,[])
  | _=>none
 | _=>none
def ka_ (τ:Tab) (T:TypeId) (x i:Operand) (S:St):OpR:=(ph_ (S.ev i)).bind fun n=>Dh_ τ T (S.ev x) n
theorem le_ {P:Program} {τ:Tab} (hτ:aq_ P τ) {o:Oper} {T:TypeId} {x i:Operand} (ho:o.op=.index T x i):aS_ P o (ka_ τ T x i):=by
 intro ds pn S side e fp h hside S1 hs _
 have ex:=hs.1 x (by simp[ho,Op.operands])
 have ei:=hs.1 i (by simp[ho,Op.operands])
 unfold ka_ at h
 rw[← ex,← ei] at h
 cases hn:ph_ (S1.ev i) with
 | none=>rw[hn] at h;cases h
 | some n =>
  rw[hn,Option.bind_some] at h
  unfold Dh_ at h
  split at h
  ·rename_i s hx
   split at h
   ·rename_i _ _ _ ht
    obtain⟨d,hu,hk⟩:=(hτ T _ ht).und
    simp only[TK.ok] at hk
    subst hk
    cases h
    obtain⟨h0,h1⟩:=hside
    refine Core.value fun w0 I0 F I β a w hr=>?_
    have hv:=hr.ev x
    rw[hx,DenA_v] at hv
    obtain⟨k,hi⟩:=bK_ hn (hr.ev i)
    have hlt:n.toNat<s.size:=by omega
    have hb:s[n.toNat]? = some s[n.toNat]:=by simp[hlt]
    have he:s.data.toList.getD n.toNat 0=s[n.toNat]:=by
     have:n.toNat<s.data.size:=hlt
     simp only[List.getD,Array.getElem?_toList]
     rw[Array.getElem?_eq_getElem this];rfl
    refine⟨_,by simp[execOp,ho,Instr.index,hi,hv,asIntOf,run_underlying hu,h0,hb];rfl,?_⟩
    rw[DenA_v,he]
   ·cases h
  ·rename_i cs hx
   split at h
   ·rename_i len el _ _ _ ht
    obtain⟨d,hu,hk⟩:=(hτ T _ ht).und
    simp only[TK.ok] at hk
    subst hk
    cases hte:τ el with
    | none=>rw[hte] at h;cases h
    | some te =>
     have tk:=hτ el te hte
     rw[hte] at h
     cases h
     obtain⟨h0,h1,h2⟩:=hside
     refine Core.value fun w0 I0 F I β a w hr=>?_
     have hv:=hr.ev x
     rw[hx] at hv
     obtain⟨vs,e1,hd⟩:=hv
     obtain⟨k,hi⟩:=bK_ hn (hr.ev i)
     have hs':cQ_ te (n.toNat*te.size) vs.length:=by rw[← hd.length];exact h2
     exact⟨_,by simp[execOp,ho,Instr.index,hi,e1,asIntOf,run_underlying hu,h0,h1,tk.size,gU_ tk hs'],bV_ hd h2⟩
   ·cases h
  ·rename_i cs hx
   split at h
   ·rename_i len el _ _ _ ht
    obtain⟨d,hu,hk⟩:=(hτ T _ ht).und
    simp only[TK.ok] at hk
    subst hk
    cases hte:τ el with
    | none=>rw[hte] at h;cases h
    | some te =>
     have tk:=hτ el te hte
     rw[hte] at h
     cases h
     obtain⟨h0,h1,h2⟩:=hside
     refine Core.value fun w0 I0 F I β a w hr=>?_
     have hv:=hr.ev x
     rw[hx,DenA,Den] at hv
     obtain⟨vs,e1,hd⟩:=hv
     obtain⟨k,hi⟩:=bK_ hn (hr.ev i)
     have hl:=hd.length
     have hs':cQ_ te (n.toNat*te.size) vs.length:=by rw[← hl];exact h2
     exact⟨_,by simp[execOp,ho,Instr.index,hi,e1,asIntOf,run_underlying hu,h0,h1,tk.size,gU_ tk hs'],oS_ (bV_ (e:=te) (DenAs.of_dens (β:=β) hd) (off:=_) (by simpa using h2)) h2⟩
   ·cases h
  ·cases h
/-! ### slice -/
def e9_ (S:St) (x:Option Operand) (dflt:Int):Option Int :=
 match x with
 | none=>some dflt
 | some y=>ph_ (S.ev y)
def rB_ (τ:Tab) (T:TypeId) (S:St) (x:AV) (lo hi mx:Option Operand):OpR :=
 (e9_ S lo 0).bind fun l =>
 match x with
 | .d (.v (.string s))=>match τ T,mx with
  | some ⟨.string,_,_,_⟩,none=>(e9_ S hi s.size).bind fun h=>some (0≤l∧l≤h∧h≤s.size,⟨.d (.v (.string (s.extract l.toNat h.toNat))),[],[],[]⟩,[])
  | _,_=>none
 | .d (.sl sz cs n full)=>match τ T with
  | some ⟨.slice e,_,_,_⟩=>(τ e).bind fun te=>(e9_ S hi n).bind fun h=>match mx with
   | none=>some (0≤l∧l≤h∧h≤n∧te.size=sz,⟨.d (.sl sz ((cs.drop (l.toNat*sz)).take ((h-l).toNat*sz)) (h-l).toNat (full&&hi.isNone)),[],[],[]⟩,[])
   | some _=>match hi with
    | none=>none
    | some _=>(e9_ S mx 0).bind fun m=>some (0≤l∧l≤h∧h≤m∧m≤n∧te.size=sz,⟨.d (.sl sz ((cs.drop (l.toNat*sz)).take ((h-l).toNat*sz)) (h-l).toNat (decide (h=m))),[],[],[]⟩,[])
  | _=>none
 | .ptr k off=>match τ T with
  | some ⟨.array n e,_,_,_⟩=>(τ e).bind fun te=>(e9_ S hi n).bind fun h=>match mx with
   | none=>some (0≤l∧l≤h∧h≤n∧(l=0∨l<n),⟨.psl k (off+l.toNat*te.size) (h-l).toNat (n-l).toNat,[],[],[]⟩,[])
   | some _=>none
  | _=>none
 | .psl k off n cap=>match τ T with
  | some ⟨.slice e,_,_,_⟩=>(τ e).bind fun te=>(e9_ S hi n).bind fun h=>match mx with
   | none=>some (0≤l∧l≤h∧h≤cap∧(l=0∨l<cap),⟨.psl k (off+l.toNat*te.size) (h-l).toNat (cap-l).toNat,[],[],[]⟩,[])
   | some _=>none
  | _=>none
 | _=>none
def j9_ (τ:Tab) (T:TypeId) (x:Operand) (lo hi mx:Option Operand) (S:St):OpR:=rB_ τ T S (S.ev x) lo hi mx
theorem bnd_ok {ds:Dn} {w0:World} {I0 F:Nat→Prop} {S:St} {I:Nat→Prop} {β:Nat→Value} {a:Act} {w:World} (hr:Rel ds w0 I0 F S I β a w) {x:Option Operand} {d n:Int} (h:e9_ S x d=some n) :
  (x=none∧n=d)∨∃ y k,x=some y∧a.eval y=.int k n:=by
 unfold e9_ at h
 split at h
 ·cases h;exact .inl ⟨rfl,rfl⟩
 ·rename_i y;obtain⟨k,hk⟩:=bK_ h (hr.ev y);exact .inr ⟨y,k,rfl,hk⟩
theorem aL_ {P:Program} {w:World} {k:IntKind} {n:Int} {y:Nat} {code:BoundsCode} (h0:0≤n) (h1:n≤y):(Instr.sliceBound (.int k n) y code).run P w=.ok n.toNat w:=by
 simp[Instr.sliceBound,asIntOf,h0,h1]
theorem a3_ {P:Program} {w:World} {ds:Dn} {w0:World} {I0 F:Nat→Prop} {S:St} {I:Nat→Prop} {β:Nat→Value} {a:Act} (hr:Rel ds w0 I0 F S I β a w) {lo hi:Option Operand} {l h:Int} {isS:Bool} {n cap:Nat}
  (hl:e9_ S lo 0=some l) (hh:e9_ S hi n=some h) (h0:0≤l) (h1:l≤h) (h2:h≤cap) :
  (Instr.sliceBounds isS n cap (lo.map a.eval) (hi.map a.eval) none).run P w=.ok (l.toNat,h.toNat,cap) w:=by
 have hb:0≤h:=by omega
 rcases bnd_ok hr hl with⟨rfl,rfl⟩|⟨y,k,rfl,hy⟩<;>rcases bnd_ok hr hh with⟨rfl,rfl⟩|⟨z,k',rfl,hz⟩
 ·simp[Instr.sliceBounds]
 ·simp[Instr.sliceBounds,hz,aL_ hb h2]
 ·simp[Instr.sliceBounds,hy,aL_ h0 h1]
 ·have:l≤(h.toNat:Int):=by omega
  simp[Instr.sliceBounds,hy,hz,aL_ hb h2,aL_ h0 this]
theorem nl_ {P:Program} {w:World} {ds:Dn} {w0:World} {I0 F:Nat→Prop} {S:St} {I:Nat→Prop} {β:Nat→Value} {a:Act} (hr:Rel ds w0 I0 F S I β a w) {lo:Option Operand} {hi mx:Operand} {l h m:Int} {isS:Bool} {n cap:Nat}
  (hl:e9_ S lo 0=some l) (hh:ph_ (S.ev hi)=some h) (hm:ph_ (S.ev mx)=some m) (h0:0≤l) (h1:l≤h) (h2:h≤m) (h3:m≤cap) :
  (Instr.sliceBounds isS n cap (lo.map a.eval) (some (a.eval hi)) (some (a.eval mx))).run P w=.ok (l.toNat,h.toNat,m.toNat) w:=by
 have hb:0≤h:=by omega
 have hc:0≤m:=by omega
 obtain⟨k1,e1⟩:=bK_ hh (hr.ev hi)
 obtain⟨k2,e2⟩:=bK_ hm (hr.ev mx)
 have hx1:h≤(m.toNat:Int):=by omega
 have hx2:l≤(h.toNat:Int):=by omega
 rcases bnd_ok hr hl with⟨rfl,rfl⟩|⟨y,k,rfl,hy⟩
 ·simp[Instr.sliceBounds,e1,e2,aL_ hc h3,aL_ hb hx1]
 ·simp[Instr.sliceBounds,hy,e1,e2,aL_ hc h3,aL_ hb hx1,aL_ h0 hx2]
theorem lc_ {P:Program} {τ:Tab} (hτ:aq_ P τ) {o:Oper} {T:TypeId} {x:Operand} {lo hi mx:Option Operand} (ho:o.op=.slice T x lo hi mx):aS_ P o (j9_ τ T x lo hi mx):=by
 intro ds pn S side e fp h hside S1 hs _
 have ex:=hs.1 x (by simp[ho,Op.operands])
 have eb:∀ (y:Option Operand) d,(∀ z,y=some z→z∈o.op.operands)→e9_ S y d=e9_ S1 y d:=fun y d hy=>by
  unfold e9_;split
  ·rfl
  ·rename_i z;rw[hs.1 z (hy z rfl)]
 have el:=eb lo 0 (fun z hz=>by simp[ho,Op.operands,hz])
 have eh:=fun d=>eb hi d (fun z hz=>by simp[ho,Op.operands,hz])
 have em:=fun d=>eb mx d (fun z hz=>by simp[ho,Op.operands,hz])
 unfold j9_ rB_ at h
 rw[← ex,el] at h
 simp only[eh,em] at h
 cases hl:e9_ S1 lo 0 with
 | none=>rw[hl] at h;cases h
 | some l =>
  rw[hl,Option.bind_some] at h
  split at h
  ·rename_i s hx
   split at h
   ·rename_i _ _ _ ht
    obtain⟨d,hu,hk⟩:=(hτ T _ ht).und
    simp only[TK.ok] at hk
    subst hk
    cases hh:e9_ S1 hi s.size with
    | none=>rw[hh] at h;cases h
    | some hv =>
     rw[hh] at h;cases h
     obtain⟨h0,h1,h2⟩:=hside
     refine Core.value fun w0 I0 F I β a w hr=>?_
     have hxv:=hr.ev x
     rw[hx,DenA_v] at hxv
     refine⟨_,?_,DenA_v.2 rfl⟩
     simp[execOp,ho,Instr.sliceAt,Instr.slice,hxv,run_underlying hu,a3_ (P:=P) (isS:=false) hr hl hh h0 h1 h2]
   ·cases h
  ·rename_i sz cs n full hx
   split at h
   ·rename_i el _ _ _ ht
    obtain⟨d,hu,hk⟩:=(hτ T _ ht).und
    simp only[TK.ok] at hk
    subst hk
    cases hte:τ el with
    | none=>rw[hte] at h;cases h
    | some te =>
     have tk:=hτ el te hte
     rw[hte,Option.bind_some] at h
     cases hh:e9_ S1 hi n with
     | none=>rw[hh] at h;cases h
     | some hv =>
      rw[hh,Option.bind_some] at h
      have den:∀ w0 I0 F I β a w,Rel ds w0 I0 F S1 I β a w→∀ m:Nat,0≤l→l≤hv→hv≤n→te.size=sz→hv≤m→∃ ad cap,a.eval x=.slice ad n cap∧n≤cap∧(full=true→cap=n) ∧
        (m≤cap→∀ full',(full'=true→hv=m)→DenA w I β (.d (.sl sz ((cs.drop (l.toNat*sz)).take ((hv-l).toNat*sz)) (hv-l).toNat full')) (.slice (if m=l.toNat then ad else ad.map (·.add (l.toNat*te.size))) (hv.toNat-l.toNat) (m-l.toNat))):=by
       intro w0 I0 F I β a w hr m h0 h1 h2 hsz hm
       have hxv:=hr.ev x
       rw[hx,DenA,Den] at hxv
       obtain⟨ad,cap,e1,hnc,hcm,hfl,hlen,hnil,hat⟩:=hxv
       refine⟨ad,cap,e1,hnc,hfl,fun hmc full' hf'=>?_⟩
       rw[DenA,Den]
       have hm1:(hv-l).toNat*sz+l.toNat*sz≤n*sz:=by
        rw[← Nat.add_mul];exact Nat.mul_le_mul_right _ (by omega)
       refine⟨_,_,by rw[show hv.toNat-l.toNat=(hv-l).toNat from by omega],by omega,by omega,fun ht=>by have:=hf' ht;omega,by simp;omega,fun hnn=>?_,fun ad' had=>?_⟩
       ·cases ad with
        | none=>have:=hnil rfl;omega
        | some ad=>split at hnn<;>cases hnn
       ·cases ad with
        | none=>split at had<;>cases had
        | some ad0 =>
         obtain⟨hsp,hat⟩:=hat ad0 rfl
         by_cases hn0:n=0
         ·have h00:(hv-l).toNat=0:=by omega
          rw[h00]
          exact⟨fun h=>absurd h (Nat.lt_irrefl 0),by simp[DenAt]⟩
         have hsp:=hsp (by omega)
         obtain⟨b,off,sp⟩:=ad0
         simp only at hsp;subst hsp
         split at had
         ·rename_i hml
          cases had
          have:(hv-l).toNat=0:=by omega
          rw[this];simp[DenAt]
         ·simp only[Option.map_some,Addr.add_lit,Option.some.injEq] at had
          subst had
          refine⟨fun _=>rfl,?_⟩
          rw[hsz]
          exact (hat.drop _).take _
      split at h
      ·cases h
       obtain⟨h0,h1,h2,hsz⟩:=hside
       refine Core.value fun w0 I0 F I β a w hr=>?_
       have hcapx:=hr.ev x
       rw[hx,DenA,Den] at hcapx
       obtain⟨ad0,cap0,e0,hnc0,_⟩:=hcapx
       obtain⟨ad,cap,e1,hnc,hfl,hden⟩:=den w0 I0 F I β a w hr cap0 h0 h1 h2 hsz (by omega)
       rw[e0] at e1
       cases e1
       refine⟨_,?_,hden (Nat.le_refl _) (full&&hi.isNone) (fun hf=>?_)⟩
       ·simp[execOp,ho,Instr.sliceAt,Instr.slice,e0,run_underlying hu,a3_ (P:=P) (isS:=true) (cap:=cap0) hr hl hh h0 h1 (by omega),tk.size]
       ·simp only[Bool.and_eq_true] at hf
        have:=hfl hf.1
        rcases bnd_ok hr hh with⟨rfl,rfl⟩|⟨y,k,rfl,_⟩
        ·omega
        ·simp at hf
      ·rename_i mxv
       split at h
       ·cases h
       ·rename_i hiv
        cases hm:e9_ S1 (some mxv) 0 with
        | none=>rw[hm] at h;cases h
        | some m =>
         rw[hm] at h;cases h
         obtain⟨h0,h1,h2,h3,hsz⟩:=hside
         refine Core.value fun w0 I0 F I β a w hr=>?_
         obtain⟨ad,cap,e1,hnc,hfl,hden⟩:=den w0 I0 F I β a w hr m.toNat h0 h1 (by omega) hsz (by omega)
         refine⟨_,?_,hden (by omega) (decide (hv=m)) (fun hf=>by simp at hf;omega)⟩
         simp[execOp,ho,Instr.sliceAt,Instr.slice,e1,run_underlying hu,nl_ (P:=P) (isS:=true) (cap:=cap) hr hl hh hm h0 h1 h2 (by omega),tk.size]
   ·cases h
  ·rename_i k off hx
   split at h
   ·rename_i n el _ _ _ ht
    obtain⟨d,hu,hk⟩:=(hτ T _ ht).und
    simp only[TK.ok] at hk
    subst hk
    cases hte:τ el with
    | none=>rw[hte] at h;cases h
    | some te =>
     have tk:=hτ el te hte
     rw[hte,Option.bind_some] at h
     cases hh:e9_ S1 hi n with
     | none=>rw[hh] at h;cases h
     | some hv =>
      rw[hh,Option.bind_some] at h
      split at h
      ·cases h
       obtain⟨h0,h1,h2,h3⟩:=hside
       refine Core.value fun w0 I0 F I β a w hr=>?_
       have hxv:=hr.ev x
       rw[hx] at hxv
       obtain⟨b,e1,e2⟩:=hxv
       refine⟨.slice (some ⟨b,off+l.toNat*te.size,none⟩) (hv-l).toNat (n-l).toNat,?_,b,e1,rfl⟩
       simp[execOp,ho,Instr.sliceAt,e2,run_underlying hu,Instr.sureAddr,a3_ (P:=P) (isS:=false) hr hl hh h0 h1 h2,tk.size,Addr.add_lit]
       refine⟨?_,by omega,by omega⟩
       intro hml
       have:l.toNat=0:=by omega
       rw[this];simp
      ·cases h
   ·cases h
  ·rename_i k off n cap hx
   split at h
   ·rename_i el _ _ _ ht
    obtain⟨d,hu,hk⟩:=(hτ T _ ht).und
    simp only[TK.ok] at hk
    subst hk
    cases hte:τ el with
    | none=>rw[hte] at h;cases h
    | some te =>
     have tk:=hτ el te hte
     rw[hte,Option.bind_some] at h
     cases hh:e9_ S1 hi n with
     | none=>rw[hh] at h;cases h
     | some hv =>
      rw[hh,Option.bind_some] at h
      split at h
      ·cases h
       obtain⟨h0,h1,h2,h3⟩:=hside
       refine Core.value fun w0 I0 F I β a w hr=>?_
       have hxv:=hr.ev x
       rw[hx] at hxv
       obtain⟨b,e1,e2⟩:=hxv
       refine⟨.slice (some ⟨b,off+l.toNat*te.size,none⟩) (hv-l).toNat (cap-l).toNat,?_,b,e1,rfl⟩
       simp[execOp,ho,Instr.sliceAt,Instr.slice,e2,run_underlying hu,a3_ (P:=P) (isS:=true) hr hl hh h0 h1 h2,tk.size,Addr.add_lit]
       refine⟨?_,by omega,by omega⟩
       intro hml
       have:l.toNat=0:=by omega
       rw[this];simp
      ·cases h
   ·cases h
  ·cases h
end Go.Xe
