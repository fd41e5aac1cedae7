/-
  Joined texts.
-/
import Derived.Test.YtdjkbdhdejlakaaGreatDoorV5
import Derived.Test.YtdjkbdhdejlakaaGreatDoorV3
set_option linter.unusedVariables false
set_option linter.unusedSimpArgs false
set_option linter.unusedSectionVars false
namespace Go.Proofs.YtdjkbdhdejlakaaGreatDoor
open Go.Xe Go.RowKit
def pc (ch:List PanicEntry):Prop:=ch=[{ v:=.iface 29 (.int .i64 20),recovered:=false }]
attribute [simp] y9_ CD_
end Go.Proofs.YtdjkbdhdejlakaaGreatDoor
namespace Go.Proofs.YtdjkbdhdejlakaaGreatDoor
open Go.Xe Go.RowKit
def va_:Nat→Nat→List UInt8→Option (Nat×List UInt8)
 | _,_,[]=>none
 | i,u,c::r=>if (i=0∨c.toNat≠0)∧(i<9∨c.toNat≤1) then (if c.toNat<128 then some (u+c.toNat%128*128^i,r) else va_ (i+1) (u+c.toNat%128*128^i) r) else none
@[local simp] theorem lb_ (c:UInt8):aS_ c=.v (.int .u8 c.toNat):=rfl
end Go.Proofs.YtdjkbdhdejlakaaGreatDoor
namespace Go.Proofs.YtdjkbdhdejlakaaGreatDoor
open Go.Xe Go.RowKit
def xN_ (bs:List UInt8):Option (Nat×List UInt8) :=
 match va_ 0 0 bs with
 | some (u,r)=>if u≤r.length then some (u,r) else none
 | none=>none
end Go.Proofs.YtdjkbdhdejlakaaGreatDoor
namespace Go.Proofs.YtdjkbdhdejlakaaGreatDoor
open Go.Xe Go.RowKit
def sT_ (p:List UInt8→Option (V×List UInt8)):Nat→List UInt8→Option (List V×List UInt8)
 | 0,r=>some ([],r)
 | n+1,r=>match p r with
  | none=>none
  | some (v,r')=>match sT_ p n r' with
   | none=>none
   | some (l,r'')=>some (v::l,r'')
def pVal:Nat→List UInt8→Option (V×List UInt8)
 | _,[]=>none
 | 0,c::r=>if c.toNat=1 then (va_ 0 0 r).map fun x=>(.mk 1 (zag x.1) ⟨#[]⟩ [],x.2) else if c.toNat=2 then (xN_ r).map fun x=>(.mk 2 0 ⟨(x.2.take x.1).toArray⟩ [],x.2.drop x.1) else none
 | b+1,c::r=>if c.toNat=1 then (va_ 0 0 r).map fun x=>(.mk 1 (zag x.1) ⟨#[]⟩ [],x.2) else if c.toNat=2 then (xN_ r).map fun x=>(.mk 2 0 ⟨(x.2.take x.1).toArray⟩ [],x.2.drop x.1)
   else if c.toNat=3 then (xN_ r).bind fun x=>(sT_ (pVal b) x.1 x.2).map fun y=>(.mk 3 0 ⟨#[]⟩ y.1,y.2) else none
theorem zB_ (b:Nat) {c:UInt8} (r:List UInt8) (h:c.toNat=1):pVal b (c::r)=(va_ 0 0 r).map fun x=>(.mk 1 (zag x.1) ⟨#[]⟩ [],x.2):=by cases b<;>simp[pVal,h]
theorem zA_ (b:Nat) {c:UInt8} (r:List UInt8) (h:c.toNat=2):pVal b (c::r)=(xN_ r).map fun x=>(.mk 2 0 ⟨(x.2.take x.1).toArray⟩ [],x.2.drop x.1):=by cases b<;>simp[pVal,h]
theorem zz_ (b:Nat) {c:UInt8} (r:List UInt8) (h:c.toNat=3):pVal (b+1) (c::r)=(xN_ r).bind fun x=>(sT_ (pVal b) x.1 x.2).map fun y=>(.mk 3 0 ⟨#[]⟩ y.1,y.2):=by simp[pVal,h]
@[simp] theorem Ea_ (l:List UInt8):List.map (unB∘AV.d) (bys l)=l:=by
 induction l with
 | nil=>rfl
 | cons c l ih=>simp only[bys,List.map_cons] at ih ⊢;rw[ih];simp[unB,f0_]
@[simp] theorem yS_ (l:List UInt8):(∀ a∈bys l,a=aS_ (unB (.d a)))↔True:=by
 refine⟨fun _=>trivial,fun _ a ha=>?_⟩
 obtain⟨c,_,rfl⟩:=List.mem_map.1 ha
 rw[sd_]
def rk (o:Option (V×List UInt8)) (ch:List PanicEntry):Prop:=o=none∧pc ch
end Go.Proofs.YtdjkbdhdejlakaaGreatDoor
namespace Go.Proofs.YtdjkbdhdejlakaaGreatDoor
open Go.Xe Go.RowKit
@[simp] def c24 (c0 c1 c2 c3:D):Box:=.cells 205 [.d c0,.d c1,.d c2,.d c3]
end Go.Proofs.YtdjkbdhdejlakaaGreatDoor
namespace Go.Proofs.YtdjkbdhdejlakaaGreatDoor
open Go.Xe Go.RowKit
/-! ### the reader of the reference -/
attribute [local simp] lb_
end Go.Proofs.YtdjkbdhdejlakaaGreatDoor
namespace Go.Proofs.YtdjkbdhdejlakaaGreatDoor
open Go.Xe Go.RowKit
attribute [local simp] lb_
/-! ### what is left is the end of what was there -/
def isEnd (r' r:List UInt8):Prop:=∃ q,q++r'=r
theorem isEnd.refl (r:List UInt8):isEnd r r:=⟨[],rfl⟩
theorem isEnd.trans {a b c:List UInt8} (h:isEnd a b) (h':isEnd b c):isEnd a c:=by
 obtain⟨q,rfl⟩:=h
 obtain⟨q',rfl⟩:=h'
 exact⟨q'++q,by simp⟩
theorem isEnd.cons {a b:List UInt8} (c:UInt8) (h:isEnd a b):isEnd a (c::b):=by
 obtain⟨q,rfl⟩:=h
 exact⟨c::q,rfl⟩
theorem isEnd.drop (n:Nat) (r:List UInt8):isEnd (r.drop n) r:=⟨r.take n,List.take_append_drop n r⟩
/-! ### the two readers -/
end Go.Proofs.YtdjkbdhdejlakaaGreatDoor
namespace Go.Proofs.YtdjkbdhdejlakaaGreatDoor
open Go.Xe Go.RowKit
attribute [local simp] lb_
theorem wk_ (l:List UInt8):(∀ a∈bys l,a=.v (.int .u8 (unB (.d a)).toNat))↔True:=yS_ l
attribute [local simp] wk_
end Go.Proofs.YtdjkbdhdejlakaaGreatDoor
namespace Go.Proofs.YtdjkbdhdejlakaaGreatDoor
open Go.Xe Go.RowKit
/-! ### numerals -/
theorem p9:(128:Nat)^9=9223372036854775808:=by decide
theorem qw_:∀ (N m:Nat),m≤N→∀ (i u:Nat) (r:List UInt8),i≤9→u+m*128^i<18446744073709551616→(i=0∨0<m)→va_ i u (bZ_ m++r)=some (u+m*128^i,r):=by
 intro N
 induction N with
 | zero =>
  intro m hm i u r hi hb h0
  have:m=0:=by omega
  subst this
  rw[bZ_,if_pos (by omega),List.singleton_append,va_]
  have:i=0:=by omega
  subst this
  simp
 | succ N ih =>
  intro m hm i u r hi hb h0
  rw[bZ_]
  split
  ·rename_i hlt
   have e:(UInt8.ofNat m).toNat=m:=by simp;omega
   have h9:i<9∨m≤1:=by
    rcases Nat.lt_or_ge i 9 with h|h
    ·exact .inl h
    ·have:i=9:=by omega
     subst this
     rw[p9] at hb
     exact .inr (by omega)
   rw[List.singleton_append,va_,e,if_pos ⟨by omega,h9⟩,if_pos hlt,Nat.mod_eq_of_lt hlt]
  ·rename_i hge
   have e:(UInt8.ofNat (m%128+128)).toNat=m%128+128:=by simp;omega
   have h9:i<9:=by
    rcases Nat.lt_or_ge i 9 with h|h
    ·exact h
    ·have:i=9:=by omega
     subst this
     rw[p9] at hb
     omega
   have hs:u+m%128*128^i+m/128*128^(i+1)=u+m*128^i:=by
    have:m*128^i=(128*(m/128)+m%128)*128^i:=by rw[Nat.div_add_mod]
    rw[this,Nat.pow_succ,Nat.add_mul]
    have:m/128*(128^i*128)=128*(m/128)*128^i:=by rw[Nat.mul_comm (128^i) 128,← Nat.mul_assoc,Nat.mul_comm (m/128) 128]
    omega
   have hc:(m%128+128)%128=m%128:=by omega
   rw[List.cons_append,va_,e,if_pos ⟨by omega,.inl h9⟩,if_neg (by omega),hc,ih (m/128) (by omega) (i+1) _ r (by omega) (by rw[hs];exact hb) (by omega),hs]
theorem ma_ {n:Nat} {r:List UInt8} (h:isU n) (hl:n≤r.length):xN_ (bZ_ n++r)=some (n,r):=by
 rw[xN_,qw_ n n (Nat.le_refl _) 0 0 r (by omega) (by unfold isU at h;omega) (.inl rfl)]
 simp[hl]
/-! ### values -/
theorem ut_ (v:V):0<v.enc.length:=by
 obtain⟨k,n,s,l⟩:=v
 rw[V.enc]
 split
 ·simp
 ·split<;>simp
theorem j2_:∀ l:List V,l.length≤(aA_ l).length
 | []=>Nat.le_refl _
 | v::l=>by
  have:=ut_ v
  have:=j2_ l
  rw[aA_];simp;omega
theorem uV_ (s:ByteArray):(⟨s.data.toList.toArray⟩:ByteArray)=s:=by cases s;simp
mutual
theorem ur_:∀ (v:V) (b:Nat) (r:List UInt8),v.ok=true→v.rng=true→v.dep≤b→v.enc.length≤1000000000000→pVal b (v.enc++r)=some (v,r)
 | .mk k n s l,b,r,hok,hr,hd,hl=>by
  have hI:=(d5_ hr).1
  rw[V.ok] at hok
  rw[V.enc] at hl ⊢
  by_cases h1:k=1
  ·subst h1
   simp only[if_true,Bool.and_eq_true,decide_eq_true_eq] at hok hl ⊢
   obtain⟨rfl,hl0⟩:=hok
   have:=List.eq_nil_of_length_eq_zero hl0
   subst this
   rw[List.cons_append,zB_ b _ (by rfl),qw_ _ _ (Nat.le_refl _) 0 0 r (by omega) (by have:=lw_ hI;unfold isU at this;omega) (.inl rfl)]
   simp[xd_]
  rw[if_neg h1] at hok hl ⊢
  by_cases h2:k=2
  ·subst h2
   simp only[if_true,Bool.and_eq_true,decide_eq_true_eq] at hok hl ⊢
   obtain⟨rfl,hl0⟩:=hok
   have:=List.eq_nil_of_length_eq_zero hl0
   subst this
   have hs:s.data.toList.length=s.size:=rfl
   simp only[List.length_cons,List.length_append] at hl
   rw[List.cons_append,zA_ b _ (by rfl),List.append_assoc,ma_ (by unfold isU;omega) (by simp[hs])]
   simp only[Option.map_some,Option.some.injEq,Prod.mk.injEq]
   rw[← hs,List.take_left,List.drop_left,uV_]
   exact⟨rfl,rfl⟩
  rw[if_neg h2] at hok hl ⊢
  by_cases h3:k=3
  ·subst h3
   simp only[if_true,Bool.and_eq_true,decide_eq_true_eq] at hok
   obtain⟨⟨rfl,rfl⟩,hokl⟩:=hok
   rw[V.dep,if_pos rfl] at hd
   obtain⟨b',rfl⟩:∃ b',b=b'+1:=⟨b-1,by omega⟩
   simp only[List.length_cons,List.length_append] at hl
   have hll:=j2_ l
   rw[List.cons_append,zz_ b' _ (by rfl),List.append_assoc,ma_ (by unfold isU;omega) (by simp;omega)]
   simp only[Option.bind_some]
   rw[uq_ l b' r hokl (d5_ hr).2 (by omega) (by omega)]
   rfl
  ·rw[if_neg h3] at hok
   cases hok
theorem uq_:∀ (l:List V) (b:Nat) (r:List UInt8),cD_ l=true→bH_ l=true→aT_ l≤b→(aA_ l).length≤1000000000000→sT_ (pVal b) l.length (aA_ l++r)=some (l,r)
 | [],b,r,_,_,_,_=>rfl
 | v::l,b,r,hok,hr,hd,hl=>by
  rw[cD_,Bool.and_eq_true] at hok
  rw[bH_,Bool.and_eq_true] at hr
  rw[aT_] at hd
  rw[aA_,List.length_append] at hl
  rw[aA_,List.length_cons,sT_,List.append_assoc,ur_ v b _ hok.1 hr.1 (by omega) (by omega)]
  simp only
  rw[uq_ l b r hok.2 hr.2 (by omega) (by omega)]
end
end Go.Proofs.YtdjkbdhdejlakaaGreatDoor
namespace Go.Proofs.YtdjkbdhdejlakaaGreatDoor
open Go.Xe Go.RowKit
end Go.Proofs.YtdjkbdhdejlakaaGreatDoor
