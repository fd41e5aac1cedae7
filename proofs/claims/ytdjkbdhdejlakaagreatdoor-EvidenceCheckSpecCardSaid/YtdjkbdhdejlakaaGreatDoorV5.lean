/-
  Joined texts.
-/
import Derived.Test.YtdjkbdhdejlakaaGreatDoorVEngEa
import Derived.Test.YtdjkbdhdejlakaaGreatDoorV3
set_option maxRecDepth 10000
set_option maxHeartbeats 4000000
set_option linter.unusedVariables false
set_option linter.unusedSimpArgs false
set_option linter.unusedSectionVars false
namespace Go.Proofs.YtdjkbdhdejlakaaGreatDoor
open Go.Xe Go.RowKit
theorem Aw_ {n:Int} (h:isI n):Fn0 Tryz.prog 199 [.v (.int .i64 n)] (.v (.int .u64 (zig n))):=by
 refine ac_ (pn:=ao_) aa_ Tryz.func199 rfl fun β0=>?_
 simp only[Tryz.f199]
 repeat(first|apply wG|(apply wR;simp -dsimp)|refine aI ?_)
 refine WP.ret (finQ.ret ?_)
 simp -dsimp[lC_ h]
theorem Av_ {n:Int} (h:isI n):Fn0 Tryz.prog 209 [.v (.int .i64 n)] (.v (.int .u64 (zig n))):=by
 refine ac_ (pn:=ao_) aa_ Tryz.func209 rfl fun β0=>?_
 simp only[Tryz.f209]
 repeat(first|apply wG|(apply wR;simp -dsimp)|refine aI ?_)
 refine WP.cond (b:=decide (0≤n)) (by simp) (fun hb=>?_) (fun hb=>?_)
 ·repeat(first|apply wG|(apply wR;simp -dsimp)|refine aI ?_)
  refine WP.ret (finQ.ret ?_)
  simp -dsimp
  rw[qQ_ h (by simpa using hb)]
  exact .refl _
 ·refine WP.skip ?_
  repeat(first|apply wG|(apply wR;simp -dsimp)|refine aI ?_)
  refine WP.ret (finQ.ret ?_)
  simp -dsimp
  rw[xc_ h (by simpa using hb)]
  exact .refl _
def s38 (u:Nat) (bs:List UInt8):St :=
 ⟨[.row 500,.d (.v (.int .u64 u))]++List.replicate 18 (.d .any),[(500,.row 5 1 bs.length ((bys bs).map .d))],[]⟩
attribute [local simp] s38
theorem Ax_ {u:Nat} (h:isU u) {bs:List UInt8} (hb:bs.length≤1000000000000) :
  Fun Tryz.prog 198 [.row 1000,.d (.v (.int .u64 u))] [(1000,.row 5 1 bs.length ((bys bs).map .d))] (.row 0) [(0,.row 5 1 (bs++bZ_ u).length ((bys (bs++bZ_ u)).map .d))] fun _=>False:=by
 refine ac_ (pn:=ao_) aa_ Tryz.func198 rfl fun β0=>?_
 simp only[Tryz.f198]
 refine WP.seq (WP.region aa_ ?_);simp
 refine WP.seq (WP.block ?_)
 refine ak_ (fun m S=>∃ bs',S=s38 m bs'∧bs'.length+(bZ_ m).length≤bs.length+10∧bs'++bZ_ m=bs++bZ_ u) u (S0:=s38 u bs) (Wk.go [] 1000 500 (by decide) (by simp) (by simp) (by simp)) ⟨bs,rfl,by have:=a8_ h;omega,rfl⟩ ?_
 rintro m _ ⟨bs',rfl,h1,h2⟩
 have hd:=v4_ m
 repeat(first|apply wG|(apply wR;simp -dsimp)|refine aI ?_)
 refine WP.cond (b:=decide (128≤m)) (by simp;omega) (fun hb=>?_) (fun hb=>?_)
 ·refine WP.skip ?_
  simp -dsimp
  repeat(first|apply wG|(apply wR;simp -dsimp)|refine aI ?_)
  refine loopW.next (s38 (m/128) (bs'++[UInt8.ofNat (m%128+128)])) (Wk.go [13] 14 500 (by decide) (by simp) (by simp[shr7_num]) (by simp[digit_num])) (m/128) ?_ ⟨_,rfl,?_,?_⟩
  ·have:=of_decide_eq_true hb;omega
  ·rw[bZ_] at h1
   rw[if_neg (by have:=of_decide_eq_true hb;omega)] at h1
   simp at h1 ⊢;omega
  ·rw[bZ_] at h2
   rw[if_neg (by have:=of_decide_eq_true hb;omega)] at h2
   simpa using h2
 ·refine WP.exit ?_
  simp -dsimp
  repeat(first|apply wG|(apply wR;simp -dsimp)|refine aI ?_)
  refine WP.ret (aU_ (S':=⟨List.replicate 4 (.d .any)++[.row 0]++List.replicate 15 (.d .any),[(0,.row 5 1 (bs++bZ_ u).length ((bys (bs++bZ_ u)).map .d))],[]⟩) (Wk.go [18] 19 0 (by decide) (by simp) (by simp) ?_) ?_)
  ·have h3:=of_decide_eq_false hb
   rw[bZ_,if_pos (by omega)] at h2
   rw[← h2]
   simp[pZ_]
  ·simp
theorem qs_:∀ (u:Nat),isU u→Fn0 Tryz.prog 208 [.v (.int .u64 u)] (slB (bZ_ u))
 | u,h=>by
  refine ac_ (pn:=ao_) aa_ Tryz.func208 rfl fun β0=>?_
  simp only[Tryz.f208]
  repeat(first|apply wG|(apply wR;simp -dsimp)|refine aI ?_)
  refine WP.cond (b:=decide (u<128)) (by simp;omega) (fun hb=>?_) (fun hb=>?_)
  ·repeat(first|apply wG|(apply wR;simp -dsimp)|refine aI ?_)
   refine WP.ret (aU_ (Wk.freeze (k:=7) (T:=5) (sz:=1) (n:=1) (ds:=[.v (.int .u8 (IntKind.u8.wrap u))]) (by simp)) ?_)
   rw[bZ_,if_pos (of_decide_eq_true hb)]
   simp[pZ_,slB]
  ·refine WP.skip ?_
   have hu:128≤u:=by simpa using hb
   simp -dsimp
   refine WP.seq (WP.region aa_ ?_)
   simp -dsimp
   repeat refine aI ?_
   refine ad_ cP_ (qs_ (u/128) (by unfold isU at h ⊢;omega)) rfl rfl ?_ ?_
   ·have:IntKind.u64.wrap ((u:Int)/128)=(u:Int)/128:=IntWalk.u64_in _ (by unfold isU at h;omega)
    simp[this]
   have hl:=a8_ (u:=u/128) (by unfold isU at h ⊢;omega)
   simp[slB]
   repeat refine aI ?_
   repeat(first|apply wG|(apply wR;simp -dsimp)|refine aI ?_)
   refine WP.ret (aU_ (Wk.freeze (k:=16) (T:=5) (sz:=1) (ds:=.v (.int .u8 (IntKind.u8.wrap (IntKind.u64.wrap ((u:Int).tmod 128+128))))::bys (bZ_ (u/128))) (by simp;rfl)) ?_)
   rw[bZ_,if_neg (by omega)]
   simp[rE_,slB,Nat.add_comm]
termination_by u=>u
decreasing_by omega
end Go.Proofs.YtdjkbdhdejlakaaGreatDoor
namespace Go.Proofs.YtdjkbdhdejlakaaGreatDoor
open Go.Xe Go.RowKit
inductive V where
 | mk (k n:Int) (s:ByteArray) (l:List V)
 deriving Inhabited
mutual
def V.cells:V→List D
 | .mk k n s l=>[.v (.int .i64 k),.v (.int .i64 n),.v (.string s),.sl 4 (aE_ l) l.length false]
def aE_:List V→List D
 | []=>[]
 | v::l=>V.cells v++aE_ l
end
def V.d (v:V):D:=.agg v.cells
@[simp] def slV (l:List V):D:=.sl 4 (aE_ l) l.length false
theorem eH_:∀ v:V,v.cells.length=4
 | .mk .. => by simp[V.cells]
theorem cy_:∀ a b:List V,aE_ (a++b)=aE_ a++aE_ b
 | [],b=>by simp[aE_]
 | v::a,b=>by simp[aE_,cy_ a b]
theorem d6_:∀ a:List V,(aE_ a).length=a.length*4
 | []=>rfl
 | v::a=>by simp[aE_,eH_,d6_ a];omega
theorem lk_ (a b:List V):(aE_ (a++b)).drop (a.length*4)=aE_ b:=by
 rw[cy_,← d6_,List.drop_left]
theorem c6_ (a:List V) (v:V) (b:List V):((aE_ (a++v::b)).drop (a.length*4)).take 4=v.cells:=by
 rw[lk_,aE_,← eH_ v,List.take_left]
mutual
def V.ok:V→Bool
 | .mk k n s l=>if k=1 then decide (s=⟨#[]⟩)&&decide (l.length=0) else if k=2 then decide (n=0)&&decide (l.length=0)
   else if k=3 then decide (n=0)&&decide (s=⟨#[]⟩)&&cD_ l else false
def cD_:List V→Bool
 | []=>true
 | v::l=>V.ok v&&cD_ l
end
mutual
def V.dep:V→Nat
 | .mk k _ _ l=>if k=3 then aT_ l+1 else 0
def aT_:List V→Nat
 | []=>0
 | v::l=>max (V.dep v) (aT_ l)
end
theorem bu_:∀ a b:List V,cD_ (a++b)=(cD_ a&&cD_ b)
 | [],b=>by simp[cD_]
 | v::a,b=>by simp[cD_,bu_ a b,Bool.and_assoc]
theorem bF_:∀ a b:List V,aT_ (a++b)=max (aT_ a) (aT_ b)
 | [],b=>by simp[aT_]
 | v::a,b=>by simp[aT_,bF_ a b,Nat.max_assoc]
mutual
def V.enc:V→List UInt8
 | .mk k n s l=>if k=1 then 1::bZ_ (zig n) else if k=2 then 2::(bZ_ s.size++s.data.toList) else 3::(bZ_ l.length++aA_ l)
def aA_:List V→List UInt8
 | []=>[]
 | v::l=>V.enc v++aA_ l
end
theorem aV_:∀ a b:List V,aA_ (a++b)=aA_ a++aA_ b
 | [],b=>by simp[aA_]
 | v::a,b=>by simp[aA_,aV_ a b]
mutual
def V.rng:V→Bool
 | .mk k n s l=>decide (-9223372036854775808≤k∧k≤9223372036854775807)&&decide (s.size≤140737488355328)&&decide (-9223372036854775808≤n∧n≤9223372036854775807)&&bH_ l
def bH_:List V→Bool
 | []=>true
 | v::l=>V.rng v&&bH_ l
end
theorem dz_:∀ a b:List V,bH_ (a++b)=(bH_ a&&bH_ b)
 | [],b=>by simp[bH_]
 | v::a,b=>by simp[bH_,dz_ a b,Bool.and_assoc]
mutual
def V.sz:V→Nat
 | .mk _ _ _ l=>mN_ l+1
def mN_:List V→Nat
 | []=>0
 | v::l=>V.sz v+mN_ l
end
theorem gF_:∀ a b:List V,mN_ (a++b)=mN_ a+mN_ b
 | [],b=>by simp[mN_]
 | v::a,b=>by simp[mN_,gF_ a b,Nat.add_assoc]
theorem iy_ {k n:Int} {s:ByteArray} {l1 l2:List V} {v:V} {N:Nat} (h:(V.mk k n s (l1++v::l2)).sz≤N+1):v.sz≤N:=by
 rw[V.sz,gF_,mN_] at h;omega
end Go.Proofs.YtdjkbdhdejlakaaGreatDoor
namespace Go.Proofs.YtdjkbdhdejlakaaGreatDoor
open Go.Xe Go.RowKit
theorem D7_:∀ (N:Nat) (v:V),v.sz≤N→v.dep≤1000000→Fn0 Tryz.prog 196 [v.d] (.tup [.v (.int .i64 (if v.ok=true then (v.dep:Int) else 0)),.v (.bool v.ok)]):=by
 intro N
 induction N with
 | zero=>rintro⟨k,n,s,l⟩ hN;rw[V.sz] at hN;omega
 | succ N ih =>
  rintro⟨k,n,s,l⟩ hN hd
  refine ac_ (pn:=ao_) aa_ Tryz.func196 rfl fun β0=>?_
  simp only[Tryz.f196]
  rw[V.d,V.cells]
  rcases (by omega:k<1∨3<k∨k=1∨k=2∨k=3) with hk|hk|rfl|rfl|rfl
  ·have hk0:k.toNat=0:=by omega
   have hk1:¬ k=1:=by omega
   have hk2:¬ k=2:=by omega
   have hk3:¬ k=3:=by omega
   repeat(first|apply wG|(apply wR;simp -dsimp[hk,hk0])|refine aI ?_)
   refine cT (by simp) ?_
   repeat(first|apply wG|(apply wR;simp -dsimp)|refine aI ?_)
   refine WP.ret (finQ.ret ?_)
   simp -dsimp[V.ok,V.dep,hk1,hk2,hk3]
  ·obtain⟨j,rfl⟩:∃ j:Nat,k=((j+4:Nat):Int):=⟨(k-4).toNat,by omega⟩
   have hk1:¬ ((j:Int)+4<1):=by omega
   have hk2:((j:Int)+4).toNat=j+4:=by omega
   have hk3:(3:Int)<(j:Int)+4:=by omega
   have hk4:¬ (j:Int)+4=1:=by omega
   have hk5:¬ (j:Int)+4=2:=by omega
   have hk6:¬ (j:Int)+4=3:=by omega
   repeat(first|apply wG|(apply wR;simp -dsimp[hk1,hk2,hk3])|refine aI ?_)
   refine vcStopG.skip (.d (.v (.bool false))) ?_
   simp -dsimp
   refine cT (by simp) ?_
   repeat(first|apply wG|(apply wR;simp -dsimp)|refine aI ?_)
   refine WP.ret (finQ.ret ?_)
   simp -dsimp[V.ok,V.dep,hk4,hk5,hk6]
  ·repeat(first|apply wG|(apply wR;simp -dsimp)|refine aI ?_)
   refine WP.cond (b := !(V.ok (.mk 1 n s l))) (by simp[V.ok]) (fun hb=>?_) (fun hb=>?_)
   ·simp at hb
    repeat(first|apply wG|(apply wR;simp -dsimp)|refine aI ?_)
    refine WP.ret (finQ.ret ?_)
    simp -dsimp[hb]
   ·simp at hb
    refine WP.skip ?_
    simp -dsimp
    repeat(first|apply wG|(apply wR;simp -dsimp)|refine aI ?_)
    refine cT (by simp) ?_
    repeat(first|apply wG|(apply wR;simp -dsimp)|refine aI ?_)
    refine WP.ret (finQ.ret ?_)
    simp -dsimp[hb,V.dep]
  ·repeat(first|apply wG|(apply wR;simp -dsimp)|refine aI ?_)
   refine WP.cond (b := !(V.ok (.mk 2 n s l))) (by simp[V.ok]) (fun hb=>?_) (fun hb=>?_)
   ·simp at hb
    repeat(first|apply wG|(apply wR;simp -dsimp)|refine aI ?_)
    refine WP.ret (finQ.ret ?_)
    simp -dsimp[hb]
   ·simp at hb
    refine WP.skip ?_
    simp -dsimp
    repeat(first|apply wG|(apply wR;simp -dsimp)|refine aI ?_)
    refine cT (by simp) ?_
    repeat(first|apply wG|(apply wR;simp -dsimp)|refine aI ?_)
    refine WP.ret (finQ.ret ?_)
    simp -dsimp[hb,V.dep]
  ·repeat(first|apply wG|(apply wR;simp -dsimp)|refine aI ?_)
   refine WP.cond (b := !(decide (n=0)&&decide (s=⟨#[]⟩))) (by simp) (fun hb=>?_) (fun hb=>?_)
   ·have hb:V.ok (.mk 3 n s l)=false:=by simp at hb;simp[V.ok];intro h1 h2;rcases hb with h|h;exact absurd h1 h;exact absurd h2 h
    repeat(first|apply wG|(apply wR;simp -dsimp)|refine aI ?_)
    refine WP.ret (finQ.ret ?_)
    simp -dsimp[hb]
   ·simp at hb
    obtain⟨rfl,rfl⟩:=hb
    refine WP.skip ?_
    simp -dsimp
    repeat(first|apply wG|(apply wR;simp -dsimp)|refine aI ?_)
    refine cF (by simp) ?_
    refine WP.skip ?_
    simp -dsimp
    repeat(first|apply wG|(apply wR;simp -dsimp)|refine aI ?_)
    refine WP.len (.tmp 55) rfl fun hl=>?_
    have hd':aT_ l+1≤1000000:=by simpa [V.dep] using hd
    have hm:maxLen=9223372036854775807:=rfl
    rw[hm] at hl
    refine ak_ (fun m S=>∃ l1 l2,l=l1++l2∧m=l2.length∧cD_ l1=true∧S=mkS 74 [(2,.d (.v (.int .i64 (aT_ l1)))),(55,.d (slV l)),(56,.d (.v (.int .i64 l.length))),(57,.d (.v (.int .i64 l1.length)))] []) l.length
     (S0:=mkS 74 [(2,.d (.v (.int .i64 0))),(55,.d (slV l)),(56,.d (.v (.int .i64 l.length))),(57,.d (.v (.int .i64 0)))] []) (ae_ [1,4] (by simp[slV]) (by simp)) ⟨[],l,rfl,rfl,rfl,by simp[aT_]⟩ ?_
    rintro _ _ ⟨l1,l2,rfl,rfl,h1,rfl⟩
    simp only[List.length_append] at hl
    rw[bF_] at hd'
    simp -dsimp[slV]
    repeat(first|apply wG|(apply wR;simp -dsimp)|refine aI ?_)
    cases l2 with
    | nil =>
     refine cF (by simp) ?_
     refine WP.exit ?_
     simp -dsimp
     repeat(first|apply wG|(apply wR;simp -dsimp)|refine aI ?_)
     simp[aT_] at hd'
     have e1:IntKind.i64.wrap ((aT_ l1:Int)+1)=(aT_ l1:Int)+1:=IntWalk.i64_in _ (by omega)
     refine WP.ret (finQ.ret ?_)
     simp -dsimp[V.ok,V.dep,h1,e1]
    | cons v l2 =>
     refine cT (by simp;omega) ?_
     refine WP.skip ?_
     simp -dsimp
     refine WP.seq (WP.block ?_)
     have hv:=c6_ l1 v l2
     obtain⟨k,n,s,lv⟩:=v
     rw[V.cells] at hv
     repeat(first|apply wG|(apply wR;simp -dsimp[hv])|refine aI ?_)
     have hdv:(V.mk k n s lv).dep≤1000000:=by simp only[aT_] at hd';omega
     refine ad_ gO_ (ih (.mk k n s lv) (iy_ hN) hdv) rfl rfl (by simp[V.d,V.cells]) ?_
     simp -dsimp
     repeat(first|apply wG|(apply wR;simp -dsimp)|refine aI ?_)
     refine WP.cond (b := !(V.ok (.mk k n s lv))) (by simp) (fun hb=>?_) (fun hb=>?_)
     ·have hb:V.ok (.mk 3 0 ⟨#[]⟩ (l1 ++ .mk k n s lv::l2))=false:=by
       simp only[Bool.not_eq_true'] at hb
       rw[V.ok,bu_,cD_,hb];simp
      repeat(first|apply wG|(apply wR;simp -dsimp)|refine aI ?_)
      refine WP.ret (finQ.ret ?_)
      simp -dsimp[hb]
     ·simp only[Bool.not_eq_false'] at hb
      refine WP.skip ?_
      simp -dsimp
      repeat(first|apply wG|(apply wR;simp -dsimp)|refine aI ?_)
      have e1:IntKind.i64.wrap ((l1.length:Int)+1)=(l1.length:Int)+1:=IntWalk.i64_in _ (by simp at hl;omega)
      refine loopW.next (mkS 74 [(2,.d (.v (.int .i64 (aT_ (l1++[.mk k n s lv]))))),(55,.d (slV (l1 ++ .mk k n s lv::l2))),(56,.d (.v (.int .i64 ((l1++V.mk k n s lv::l2).length:Nat)))),(57,.d (.v (.int .i64 ((l1++[V.mk k n s lv]).length:Nat))))] [])
       (ae_ [6] (by simp[slV,e1,hb,bF_,aT_,EB_]) (by simp)) l2.length (by simp) ⟨l1++[.mk k n s lv],l2,by simp,rfl,by simp[bu_,cD_,h1,hb],rfl⟩
theorem AA_ (v:V) (h:v.dep≤1000000):Fn0 Tryz.prog 196 [v.d] (.tup [.v (.int .i64 (if v.ok=true then (v.dep:Int) else 0)),.v (.bool v.ok)]):=D7_ v.sz v (Nat.le_refl _) h
end Go.Proofs.YtdjkbdhdejlakaaGreatDoor
namespace Go.Proofs.YtdjkbdhdejlakaaGreatDoor
open Go.Xe Go.RowKit
def V.chk (v:V):Int:=if v.ok=true then (if 16<v.dep then 2 else 0) else 1
theorem AE_ (v:V) (h:v.dep≤1000000):Fn0 Tryz.prog 177 [v.d] (.v (.int .i64 v.chk)):=by
 refine ac_ (pn:=ao_) aa_ Tryz.func177 rfl fun β0=>?_
 simp only[Tryz.f177]
 obtain⟨k,n,s,l⟩:=v
 rw[V.d,V.cells]
 repeat(first|apply wG|(apply wR;simp -dsimp)|refine aI ?_)
 refine ad_ gO_ (AA_ (.mk k n s l) h) rfl rfl (by simp[V.d,V.cells]) ?_
 simp -dsimp
 repeat(first|apply wG|(apply wR;simp -dsimp)|refine aI ?_)
 cases hok:V.ok (.mk k n s l) with
 | false =>
  refine cT (by simp) ?_
  repeat(first|apply wG|(apply wR;simp -dsimp)|refine aI ?_)
  refine WP.ret (finQ.ret ?_)
  simp -dsimp[V.chk,hok]
 | true =>
  refine cF (by simp) ?_
  repeat(first|apply wG|(apply wR;simp -dsimp)|refine aI ?_)
  refine WP.cond (b:=decide (16<V.dep (.mk k n s l))) (by simp;omega) (fun hb=>?_) (fun hb=>?_)
  ·have hb:=of_decide_eq_true hb
   repeat(first|apply wG|(apply wR;simp -dsimp)|refine aI ?_)
   refine WP.ret (finQ.ret ?_)
   simp -dsimp[V.chk,hok,hb]
  ·have hb:=of_decide_eq_false hb
   refine WP.skip ?_
   simp -dsimp
   repeat(first|apply wG|(apply wR;simp -dsimp)|refine aI ?_)
   refine WP.ret (finQ.ret ?_)
   simp -dsimp[V.chk,hok,hb]
@[simp] def bV (k n:Int) (s:ByteArray) (l:List V):Box:=.cells 205 [.d (.v (.int .i64 k)),.d (.v (.int .i64 n)),.d (.v (.string s)),.d (slV l)]
theorem D6_:∀ (N:Nat) (v:V),v.sz≤N→Fn0 Tryz.prog 206 [v.d] (.v (.bool v.ok)):=by
 intro N
 induction N with
 | zero=>rintro⟨k,n,s,l⟩ hN;rw[V.sz] at hN;omega
 | succ N ih =>
  rintro⟨k,n,s,l⟩ hN
  refine ac_ (pn:=ao_) aa_ Tryz.func206 rfl fun β0=>?_
  simp only[Tryz.f206]
  rw[V.d,V.cells]
  repeat(first|apply wG|(apply wR;simp -dsimp)|refine aI ?_)
  refine WP.cond (b:=decide (k=1)) (by simp) (fun hb=>?_) (fun hb=>?_)
  ·have hb:=of_decide_eq_true hb
   subst hb
   repeat(first|apply wG|(apply wR;simp -dsimp)|refine aI ?_)
   refine WP.ret (finQ.ret ?_)
   simp -dsimp[V.ok]
  have hk1:¬ k=1:=of_decide_eq_false hb
  repeat(first|apply wG|(apply wR;simp -dsimp)|refine aI ?_)
  refine WP.cond (b:=decide (k=2)) (by simp) (fun hb=>?_) (fun hb=>?_)
  ·have hb:=of_decide_eq_true hb
   subst hb
   repeat(first|apply wG|(apply wR;simp -dsimp)|refine aI ?_)
   refine WP.ret (finQ.ret ?_)
   simp -dsimp[V.ok]
  have hk2:¬ k=2:=of_decide_eq_false hb
  repeat(first|apply wG|(apply wR;simp -dsimp)|refine aI ?_)
  refine WP.cond (b:=decide (k=3)) (by simp) (fun hb=>?_) (fun hb=>?_)
  ·have hb:=of_decide_eq_true hb
   subst hb
   repeat(first|apply wG|(apply wR;simp -dsimp)|refine aI ?_)
   refine ak_ (fun m S=>∃ l1 l2,l=l1++l2∧m=l2.length∧cD_ l1=true∧S=mkS 52 [(1,.ptr 1 0),(3,.d (.v (.int .i64 l1.length)))] [(1,bV 3 n s l)]) l.length
    (S0:=mkS 52 [(1,.ptr 1 0),(3,.d (.v (.int .i64 0)))] [(1,bV 3 n s l)]) (ae_ [] (by simp) (by simp[bV,slV])) ⟨[],l,rfl,rfl,rfl,by simp⟩ ?_
   rintro _ _ ⟨l1,l2,rfl,rfl,h1,rfl⟩
   simp -dsimp[bV,slV]
   repeat(first|apply wG|(apply wR;simp -dsimp)|refine aI ?_)
   refine WP.len (.tmp 32) rfl fun hl=>?_
   have hm:maxLen=9223372036854775807:=rfl
   rw[hm] at hl
   cases l2 with
   | nil =>
    refine cF (by simp) ?_
    refine WP.exit ?_
    simp -dsimp
    repeat(first|apply wG|(apply wR;simp -dsimp)|refine aI ?_)
    refine WP.ret (finQ.ret ?_)
    simp -dsimp[V.ok,h1]
   | cons v l2 =>
    refine cT (by simp;omega) ?_
    refine WP.skip ?_
    simp -dsimp
    refine WP.seq (WP.block ?_)
    have hv:=c6_ l1 v l2
    obtain⟨k,n,s,lv⟩:=v
    rw[V.cells] at hv
    repeat(first|apply wG|(apply wR;simp -dsimp[hv])|refine aI ?_)
    refine ad_ gH_ (ih (.mk k n s lv) (iy_ hN)) rfl rfl (by simp[V.d,V.cells]) ?_
    simp -dsimp
    repeat(first|apply wG|(apply wR;simp -dsimp)|refine aI ?_)
    refine WP.cond (b := !(V.ok (.mk k n s lv))) (by simp) (fun hb=>?_) (fun hb=>?_)
    ·simp only[Bool.not_eq_true'] at hb
     repeat(first|apply wG|(apply wR;simp -dsimp)|refine aI ?_)
     refine WP.ret (finQ.ret ?_)
     simp -dsimp
     rw[V.ok,bu_,cD_,hb]
     simp
    ·simp only[Bool.not_eq_false'] at hb
     refine WP.skip ?_
     simp -dsimp
     repeat(first|apply wG|(apply wR;simp -dsimp)|refine aI ?_)
     have e1:IntKind.i64.wrap ((l1.length:Int)+1)=(l1.length:Int)+1:=IntWalk.i64_in _ (by simp at hl;omega)
     refine loopW.next (mkS 52 [(1,.ptr 1 0),(3,.d (.v (.int .i64 (l1++[V.mk k n s lv]).length)))] [(1,bV 3 _ _ (l1 ++ .mk k n s lv::l2))])
      (ae_ [] (by simp[e1]) (by simp[bV,slV])) l2.length (by simp) ⟨l1++[.mk k n s lv],l2,by simp,rfl,by simp[bu_,cD_,h1,hb],rfl⟩
  ·have hk3:¬ k=3:=of_decide_eq_false hb
   refine WP.skip ?_
   simp -dsimp
   repeat(first|apply wG|(apply wR;simp -dsimp)|refine aI ?_)
   refine WP.ret (finQ.ret ?_)
   simp -dsimp[V.ok,hk1,hk2,hk3]
theorem Az_ (v:V):Fn0 Tryz.prog 206 [v.d] (.v (.bool v.ok)):=D6_ v.sz v (Nat.le_refl _)
theorem D5_:∀ (N:Nat) (v:V),v.sz≤N→v.dep≤1000000→Fn0 Tryz.prog 207 [v.d] (.v (.int .i64 v.dep)):=by
 intro N
 induction N with
 | zero=>rintro⟨k,n,s,l⟩ hN;rw[V.sz] at hN;omega
 | succ N ih =>
  rintro⟨k,n,s,l⟩ hN hd
  refine ac_ (pn:=ao_) aa_ Tryz.func207 rfl fun β0=>?_
  simp only[Tryz.f207]
  rw[V.d,V.cells]
  repeat(first|apply wG|(apply wR;simp -dsimp)|refine aI ?_)
  refine WP.cond (b := !decide (k=3)) (by simp) (fun hb=>?_) (fun hb=>?_)
  ·have hb:¬ k=3:=by simpa using hb
   repeat(first|apply wG|(apply wR;simp -dsimp)|refine aI ?_)
   refine WP.ret (finQ.ret ?_)
   simp -dsimp[V.dep,hb]
  have hb:k=3:=by simpa using hb
  subst hb
  refine WP.skip ?_
  simp -dsimp
  repeat(first|apply wG|(apply wR;simp -dsimp)|refine aI ?_)
  have hd':aT_ l+1≤1000000:=by simpa [V.dep] using hd
  refine ak_ (fun m S=>∃ l1 l2,l=l1++l2∧m=l2.length∧S=mkS 25 [(1,.ptr 1 0),(3,.d (.v (.int .i64 (aT_ l1)))),(4,.d (.v (.int .i64 l1.length)))] [(1,bV 3 n s l)]) l.length
   (S0:=mkS 25 [(1,.ptr 1 0),(3,.d (.v (.int .i64 0))),(4,.d (.v (.int .i64 0)))] [(1,bV 3 n s l)]) (ae_ [] (by simp) (by simp[bV,slV])) ⟨[],l,rfl,rfl,by simp[aT_]⟩ ?_
  rintro _ _ ⟨l1,l2,rfl,rfl,rfl⟩
  simp -dsimp[bV,slV]
  repeat(first|apply wG|(apply wR;simp -dsimp)|refine aI ?_)
  refine WP.len (.tmp 10) rfl fun hl=>?_
  have hm:maxLen=9223372036854775807:=rfl
  rw[hm] at hl
  rw[bF_] at hd'
  cases l2 with
  | nil =>
   refine cF (by simp) ?_
   refine WP.exit ?_
   simp -dsimp
   repeat(first|apply wG|(apply wR;simp -dsimp)|refine aI ?_)
   simp[aT_] at hd'
   have e1:IntKind.i64.wrap ((aT_ l1:Int)+1)=(aT_ l1:Int)+1:=IntWalk.i64_in _ (by omega)
   refine WP.ret (finQ.ret ?_)
   simp -dsimp[V.dep,e1]
  | cons v l2 =>
   refine cT (by simp;omega) ?_
   refine WP.skip ?_
   simp -dsimp
   refine WP.seq (WP.block ?_)
   have hv:=c6_ l1 v l2
   obtain⟨k,n,s,lv⟩:=v
   rw[V.cells] at hv
   repeat(first|apply wG|(apply wR;simp -dsimp[hv])|refine aI ?_)
   have hdv:(V.mk k n s lv).dep≤1000000:=by simp only[aT_] at hd';omega
   refine ad_ gG_ (ih (.mk k n s lv) (iy_ hN) hdv) rfl rfl (by simp[V.d,V.cells]) ?_
   simp -dsimp
   repeat(first|apply wG|(apply wR;simp -dsimp)|refine aI ?_)
   have e1:IntKind.i64.wrap ((l1.length:Int)+1)=(l1.length:Int)+1:=IntWalk.i64_in _ (by simp at hl;omega)
   refine loopW.next (mkS 25 [(1,.ptr 1 0),(3,.d (.v (.int .i64 (aT_ (l1++[V.mk k n s lv]))))),(4,.d (.v (.int .i64 (l1++[V.mk k n s lv]).length)))] [(1,bV 3 _ _ (l1 ++ .mk k n s lv::l2))])
    (ae_ [] (by simp[e1,bF_,aT_,EB_]) (by simp[bV,slV])) l2.length (by simp) ⟨l1++[.mk k n s lv],l2,by simp,rfl,rfl⟩
theorem Ay_ (v:V) (h:v.dep≤1000000):Fn0 Tryz.prog 207 [v.d] (.v (.int .i64 v.dep)):=D5_ v.sz v (Nat.le_refl _) h
theorem AD_ (v:V) (h:v.dep≤1000000):Fn0 Tryz.prog 183 [v.d] (.v (.int .i64 v.chk)):=by
 refine ac_ (pn:=ao_) aa_ Tryz.func183 rfl fun β0=>?_
 simp only[Tryz.f183]
 obtain⟨k,n,s,l⟩:=v
 rw[V.d,V.cells]
 repeat(first|apply wG|(apply wR;simp -dsimp)|refine aI ?_)
 refine ad_ gH_ (Az_ (.mk k n s l)) rfl rfl (by simp[V.d,V.cells]) ?_
 simp -dsimp
 repeat(first|apply wG|(apply wR;simp -dsimp)|refine aI ?_)
 cases hok:V.ok (.mk k n s l) with
 | false =>
  refine cT (by simp) ?_
  repeat(first|apply wG|(apply wR;simp -dsimp)|refine aI ?_)
  refine WP.ret (finQ.ret ?_)
  simp -dsimp[V.chk,hok]
 | true =>
  refine cF (by simp) ?_
  refine WP.skip ?_
  simp -dsimp
  repeat(first|apply wG|(apply wR;simp -dsimp)|refine aI ?_)
  refine ad_ gG_ (Ay_ (.mk k n s l) h) rfl rfl (by simp[V.d,V.cells]) ?_
  simp -dsimp
  repeat(first|apply wG|(apply wR;simp -dsimp)|refine aI ?_)
  refine WP.cond (b:=decide (16<V.dep (.mk k n s l))) (by simp;omega) (fun hb=>?_) (fun hb=>?_)
  ·have hb:=of_decide_eq_true hb
   repeat(first|apply wG|(apply wR;simp -dsimp)|refine aI ?_)
   refine WP.ret (finQ.ret ?_)
   simp -dsimp[V.chk,hok,hb]
  ·have hb:=of_decide_eq_false hb
   refine WP.skip ?_
   simp -dsimp
   repeat(first|apply wG|(apply wR;simp -dsimp)|refine aI ?_)
   refine WP.ret (finQ.ret ?_)
   simp -dsimp[V.chk,hok,hb]
end Go.Proofs.YtdjkbdhdejlakaaGreatDoor
namespace Go.Proofs.YtdjkbdhdejlakaaGreatDoor
open Go.Xe Go.RowKit
@[simp] def rowB (bs:List UInt8):Box:=.row 5 1 bs.length ((bys bs).map .d)
@[simp] theorem EE_:aS_ 1=.v (.int .u8 1):=rfl
@[simp] theorem ED_:aS_ 2=.v (.int .u8 2):=rfl
@[simp] theorem EC_:aS_ 3=.v (.int .u8 3):=rfl
@[simp] theorem z7_ (l:List UInt8):l.map aS_=bys l:=rfl
@[simp] theorem xy_ (s:ByteArray):s.data.size=s.size:=rfl
theorem uU_ (s:ByteArray):s.data.toList.length=s.size:=rfl
theorem og_ {u:Nat} (h:isU u) {bs:List UInt8} (hb:bs.length≤1000000000000) :
  Fun Tryz.prog 198 [.row 1000,.d (.v (.int .u64 u))] [(1000,rowB bs)] (.row 0) [(0,rowB (bs++bZ_ u))] fun _=>False:=Ax_ h hb
theorem w7_ {n:Int} (h:isI n) (s:ByteArray) (l:List V) {bs:List UInt8} (hb:bs.length≤1000000000) :
  Fun Tryz.prog 197 [.row 1000,.d (V.mk 1 n s l).d] [(1000,rowB bs)] (.row 0) [(0,rowB (bs++(V.mk 1 n s l).enc))] fun _=>False:=by
 refine ac_ (pn:=ao_) aa_ Tryz.func197 rfl fun β0=>?_
 simp only[Tryz.f197]
 rw[V.d,V.cells]
 simp -dsimp[rowB]
 repeat(first|apply wG|(apply wR;simp -dsimp)|refine aI ?_)
 refine ad_ mU_ (Aw_ h) rfl rfl (by simp) ?_
 simp -dsimp
 repeat refine aI ?_
 refine vcStop.call d9_ (og_ (lw_ h) (bs:=bs++[1]) (by simp;omega)) (rl [(1000,7),(0,11)]) rfl rfl (by simp[rowB,BoxLeq]) (ai_ (by simp[rowB,BoxLeq]) rfl (by first|rfl|(simp[rowB,BoxLeq];done)) (by simp[rowB,BoxLeq]) (by simp[rowB,BoxLeq])) (fun _ h=>h.elim) (fun ⟨_,h⟩=>h.elim) (fun ⟨_,h⟩=>h.elim) (by simp[rowB,BoxLeq]) ?_
 simp -dsimp[rowB]
 repeat(first|apply wG|(apply wR;simp -dsimp)|refine aI ?_)
 refine WP.ret (aU_ (S':=mkS 12 [(4,.row 0)] [(0,rowB (bs++(V.mk 1 n s l).enc))]) (Wk.go [] 11 0 (by decide) (by simp) (by simp) (by simp[rowB,V.enc])) ?_)
 simp
theorem w6_ (n:Int) (s:ByteArray) (l:List V) {bs:List UInt8} (hb:bs.length+s.size≤1000000000) :
  Fun Tryz.prog 200 [.row 1000,.d (V.mk 2 n s l).d] [(1000,rowB bs)] (.row 0) [(0,rowB (bs++(V.mk 2 n s l).enc))] fun _=>False:=by
 refine ac_ (pn:=ao_) aa_ Tryz.func200 rfl fun β0=>?_
 simp only[Tryz.f200]
 rw[V.d,V.cells]
 simp -dsimp[rowB]
 repeat(first|apply wG|(apply wR;simp -dsimp)|refine aI ?_)
 have e1:IntKind.u64.wrap (s.size:Int)=(s.size:Nat):=IntWalk.u64_in _ (by omega)
 have hd:=a8_ (u:=s.size) (by unfold isU;omega)
 rw[e1]
 refine vcStop.call d9_ (og_ (u:=s.size) (by unfold isU;omega) (bs:=bs++[2]) (by simp;omega)) (rl [(1000,7),(0,12)]) rfl rfl (by simp[rowB,BoxLeq]) (ai_ (by simp[rowB,BoxLeq]) rfl (by first|rfl|(simp[rowB,BoxLeq];done)) (by simp[rowB,BoxLeq]) (by simp[rowB,BoxLeq])) (fun _ h=>h.elim) (fun ⟨_,h⟩=>h.elim) (fun ⟨_,h⟩=>h.elim) (by simp[rowB,BoxLeq]) ?_
 simp -dsimp[rowB]
 repeat refine aI ?_
 repeat(first|apply wG|(apply wR;simp -dsimp)|refine aI ?_)
 refine WP.ret (aU_ (S':=mkS 16 [(4,.row 0)] [(0,rowB (bs++(V.mk 2 n s l).enc))]) (Wk.go [] 15 0 (by decide) (by simp) (by simp) (by simp[rowB,V.enc,uU_];omega)) ?_)
 simp
end Go.Proofs.YtdjkbdhdejlakaaGreatDoor
namespace Go.Proofs.YtdjkbdhdejlakaaGreatDoor
open Go.Xe Go.RowKit
@[simp] def wb (c:Nat):Box:=.cells 269 [.d (.v .nilFunc),.d (.v (.func (.func 197) #[] #[])),.d (.v (.func (.func 200) #[] #[])),.fn (.func 201) [] [.ptr c 0]]
@[simp] def wc (b:Nat):Box:=.cells 249 [.ptr b 0]
theorem tL_:Fun Tryz.prog 178 [] [] (.ptr 0 0) [(0,wb 1),(1,wc 0)] fun _=>False:=by
 refine ac_ (pn:=ao_) aa_ Tryz.func178 rfl fun β0=>?_
 simp only[Tryz.f178]
 repeat(first|apply wG|(apply wR;simp -dsimp)|refine aI ?_)
 refine WP.ret (aU_ (S':=mkS 18 [(0,.ptr 0 0)] [(0,wb 1),(1,wc 0)]) (Wk.go [] 3 0 (by decide) (by simp) (by simp) (by simp[wb,wc])) ?_)
 simp
theorem mO_ {k n:Int} {s:ByteArray} {l:List V} (h:V.ok (.mk k n s l)=true):k=1∨k=2∨(k=3∧cD_ l=true):=by
 rw[V.ok] at h
 split at h
 ·exact .inl ‹_›
 ·split at h
  ·exact .inr (.inl ‹_›)
  ·split at h
   ·simp only[Bool.and_eq_true] at h;exact .inr (.inr ⟨‹_›,h.2⟩)
   ·cases h
theorem d5_ {k n:Int} {s:ByteArray} {l:List V} (h:V.rng (.mk k n s l)=true):isI n∧bH_ l=true:=by
 rw[V.rng] at h
 simp only[Bool.and_eq_true,decide_eq_true_eq] at h
 exact⟨h.1.2,h.2⟩
theorem D4_:∀ (N:Nat) (n:Int) (s:ByteArray) (l:List V) (bs:List UInt8),(V.mk 3 n s l).sz≤N→cD_ l=true→bH_ l=true→bs.length+(V.enc (.mk 3 n s l)).length≤1000000000 →
  Fun Tryz.prog 201 [.row 1000,.d (V.mk 3 n s l).d,.ptr 1001 0] [(1000,rowB bs),(1001,wc 1002),(1002,wb 1001)] (.row 0) [(0,rowB (bs++V.enc (.mk 3 n s l))),(1001,wc 1002),(1002,wb 1001)] fun _=>False:=by
 intro N
 induction N with
 | zero=>intro n s l bs hN;rw[V.sz] at hN;omega
 | succ N ih =>
  intro n s l bs hN hok hrg hlen
  refine ac_ (pn:=ao_) aa_ Tryz.func201 rfl fun β0=>?_
  simp only[Tryz.f201]
  rw[V.d,V.cells]
  simp -dsimp[rowB,wb,wc]
  refine un_ (.tmp 1) 3 rfl fun hl=>?_
  have hm:maxLen=9223372036854775807:=rfl
  rw[hm] at hl
  have e1:IntKind.u64.wrap (l.length:Int)=(l.length:Nat):=IntWalk.u64_in _ (by omega)
  have hd:=a8_ (u:=l.length) (by unfold isU;omega)
  have he:(V.mk 3 n s l).enc=3::(bZ_ l.length++aA_ l):=by simp[V.enc]
  have hlen':bs.length+(1+(bZ_ l.length).length+(aA_ l).length)≤1000000000:=by
   rw[he] at hlen;simp at hlen;omega
  repeat(first|apply wG|(apply wR;simp -dsimp)|refine aI ?_)
  rw[e1]
  refine vcStop.call d9_ (og_ (u:=l.length) (by unfold isU;omega) (bs:=bs++[3]) (by simp;omega)) (rl [(1000,10),(0,15)]) rfl rfl (by simp[rowB,BoxLeq]) (ai_ (by simp[rowB,BoxLeq]) rfl (by first|rfl|(simp[rowB,BoxLeq];done)) (by simp[rowB,BoxLeq]) (by simp[rowB,BoxLeq])) (fun _ h=>h.elim) (fun ⟨_,h⟩=>h.elim) (fun ⟨_,h⟩=>h.elim) (by simp[rowB,BoxLeq]) ?_
  simp -dsimp[rowB]
  repeat(first|apply wG|(apply wR;simp -dsimp)|refine aI ?_)
  refine ak_ (fun m S=>∃ l1 l2,l=l1++l2∧m=l2.length∧S=mkS 35 [(0,.row 500),(2,.ptr 1001 0),(17,.d (slV l)),(18,.d (.v (.int .i64 l.length))),(19,.d (.v (.int .i64 l1.length)))] [(500,rowB (bs++3::(bZ_ l.length++aA_ l1))),(1001,wc 1002),(1002,wb 1001)]) l.length
   (S0:=mkS 35 [(0,.row 500),(2,.ptr 1001 0),(17,.d (slV l)),(18,.d (.v (.int .i64 l.length))),(19,.d (.v (.int .i64 0)))] [(500,rowB (bs++3::(bZ_ l.length++aA_ []))),(1001,wc 1002),(1002,wb 1001)])
   (Wk.go [] 15 500 (by decide) (by simp) (by simp[slV]) (by simp[rowB,wb,wc,aA_])) ⟨[],l,rfl,rfl,by simp⟩ ?_
  rintro _ _ ⟨l1,l2,hl12,rfl,rfl⟩
  simp -dsimp[slV]
  repeat(first|apply wG|(apply wR;simp -dsimp)|refine aI ?_)
  cases l2 with
  | nil =>
   simp only[List.append_nil] at hl12
   subst hl12
   refine cF (by simp) ?_
   refine WP.exit ?_
   simp -dsimp
   repeat(first|apply wG|(apply wR;simp -dsimp)|refine aI ?_)
   refine WP.ret (aU_ (S':=mkS 35 [(5,.row 0)] [(0,rowB (bs++V.enc (.mk 3 n s l))),(1001,wc 1002),(1002,wb 1001)]) (Wk.go [] 500 0 (by decide) (by simp) (by simp) (by simp[rowB,wb,wc,he])) ?_)
   simp[wb,wc]
  | cons v l2 =>
   have hll:l.length=l1.length+(l2.length+1):=by rw[hl12];simp
   refine cT (by simp;omega) ?_
   refine WP.skip ?_
   simp -dsimp
   refine WP.seq (WP.block ?_)
   have hv:=c6_ l1 v l2
   rw[← hl12] at hv
   have hokv:v.ok=true:=by rw[hl12,bu_,cD_] at hok;simp only[Bool.and_eq_true] at hok;exact hok.2.1
   have hrgv:v.rng=true:=by rw[hl12,dz_,bH_] at hrg;simp only[Bool.and_eq_true] at hrg;exact hrg.2.1
   have hlv:bs.length+(1+(bZ_ l.length).length+(aA_ l1).length+v.enc.length)≤1000000000:=by
    have:(aA_ l).length=(aA_ l1).length+(v.enc.length+(aA_ l2).length):=by rw[hl12,aV_,aA_];simp
    omega
   obtain⟨k,n',s',lv⟩:=v
   rw[V.cells] at hv
   have e2:IntKind.i64.wrap ((l1.length:Int)+1)=(l1.length:Int)+1:=IntWalk.i64_in _ (by omega)
   have hI:∀ (X:List UInt8),X=bs++3::(bZ_ l.length++aA_ l1)++V.enc (.mk k n' s' lv)→X=bs++3::(bZ_ l.length++aA_ (l1++[.mk k n' s' lv])):=fun X hX=>by rw[hX,aV_,aA_,aA_];simp
   rcases mO_ hokv with rfl|rfl|⟨rfl,hokl⟩
   ·repeat(first|apply wG|(apply wR;simp -dsimp[hv])|refine aI ?_)
    have hx:(V.enc (.mk 1 n' s' lv)).length=1+(bZ_ (zig n')).length:=by simp[V.enc];omega
    refine vcStop.call gN_ (w7_ (d5_ hrgv).1 s' lv (bs:=bs++3::(bZ_ l.length++aA_ l1)) (by simp;omega)) (rl [(1000,500),(0,32)]) rfl rfl (by simp[V.d,V.cells,BoxLeq]) (ai_ (by simp[V.d,V.cells,BoxLeq]) rfl (by first|rfl|(simp[V.d,V.cells,BoxLeq];done)) (by simp[V.d,V.cells,BoxLeq]) (by simp[V.d,V.cells,BoxLeq])) (fun _ h=>h.elim) (fun ⟨_,h⟩=>h.elim) (fun ⟨_,h⟩=>h.elim) (by simp[V.d,V.cells,BoxLeq]) ?_
    simp -dsimp
    repeat(first|apply wG|(apply wR;simp -dsimp)|refine aI ?_)
    refine loopW.next (mkS 35 [(0,.row 500),(2,.ptr 1001 0),(17,.d (slV l)),(18,.d (.v (.int .i64 l.length))),(19,.d (.v (.int .i64 (l1++[V.mk 1 n' s' lv]).length)))] [(500,rowB (bs++3::(bZ_ l.length++aA_ (l1++[.mk 1 n' s' lv])))),(1001,wc 1002),(1002,wb 1001)])
     (Wk.go [] 32 500 (by decide) (by simp) (by simp[e2]) (by simp[aV_,aA_])) l2.length (by simp) ⟨l1++[.mk 1 n' s' lv],l2,by simp[hl12],rfl,rfl⟩
   ·repeat(first|apply wG|(apply wR;simp -dsimp[hv])|refine aI ?_)
    have hx:(V.enc (.mk 2 n' s' lv)).length=1+((bZ_ s'.size).length+s'.size):=by simp[V.enc];omega
    refine vcStop.call gM_ (w6_ n' s' lv (bs:=bs++3::(bZ_ l.length++aA_ l1)) (by simp;omega)) (rl [(1000,500),(0,32)]) rfl rfl (by simp[V.d,V.cells,BoxLeq]) (ai_ (by simp[V.d,V.cells,BoxLeq]) rfl (by first|rfl|(simp[V.d,V.cells,BoxLeq];done)) (by simp[V.d,V.cells,BoxLeq]) (by simp[V.d,V.cells,BoxLeq])) (fun _ h=>h.elim) (fun ⟨_,h⟩=>h.elim) (fun ⟨_,h⟩=>h.elim) (by simp[V.d,V.cells,BoxLeq]) ?_
    simp -dsimp
    repeat(first|apply wG|(apply wR;simp -dsimp)|refine aI ?_)
    refine loopW.next (mkS 35 [(0,.row 500),(2,.ptr 1001 0),(17,.d (slV l)),(18,.d (.v (.int .i64 l.length))),(19,.d (.v (.int .i64 (l1++[V.mk 2 n' s' lv]).length)))] [(500,rowB (bs++3::(bZ_ l.length++aA_ (l1++[.mk 2 n' s' lv])))),(1001,wc 1002),(1002,wb 1001)])
     (Wk.go [] 32 500 (by decide) (by simp) (by simp[e2]) (by simp[aV_,aA_])) l2.length (by simp) ⟨l1++[.mk 2 n' s' lv],l2,by simp[hl12],rfl,rfl⟩
   ·repeat(first|apply wG|(apply wR;simp -dsimp[hv])|refine aI ?_)
    refine vcStop.call gL_ (ih n' s' lv (bs++3::(bZ_ l.length++aA_ l1)) (iy_ (by rw[← hl12];exact hN)) hokl (d5_ hrgv).2 (by simp;omega)) (rl [(1000,500),(0,32)]) rfl rfl (by simp[V.d,V.cells,BoxLeq]) (ai_ (by simp[V.d,V.cells,BoxLeq]) rfl (by first|rfl|(simp[V.d,V.cells,BoxLeq];done)) (by simp[V.d,V.cells,BoxLeq]) (by simp[V.d,V.cells,BoxLeq])) (fun _ h=>h.elim) (fun ⟨_,h⟩=>h.elim) (fun ⟨_,h⟩=>h.elim) (by simp[V.d,V.cells,BoxLeq]) ?_
    simp -dsimp
    repeat(first|apply wG|(apply wR;simp -dsimp)|refine aI ?_)
    refine loopW.next (mkS 35 [(0,.row 500),(2,.ptr 1001 0),(17,.d (slV l)),(18,.d (.v (.int .i64 l.length))),(19,.d (.v (.int .i64 (l1++[V.mk 3 n' s' lv]).length)))] [(500,rowB (bs++3::(bZ_ l.length++aA_ (l1++[.mk 3 n' s' lv])))),(1001,wc 1002),(1002,wb 1001)])
     (Wk.go [] 32 500 (by decide) (by simp) (by simp[e2]) (by simp[aV_,aA_])) l2.length (by simp) ⟨l1++[.mk 3 n' s' lv],l2,by simp[hl12],rfl,rfl⟩
theorem yx_ {n:Int} (h:isI n) (s:ByteArray) (l:List V):Fun Tryz.prog 197 [.d (.v (.slice none 0 0)),.d (V.mk 1 n s l).d] [] (.row 0) [(0,rowB (V.mk 1 n s l).enc)] fun _=>False:=by
 have:=w7_ h s l (bs:=[]) (by simp)
 exact eq_ (by simpa using this) rfl rfl (by simp) rfl
theorem yw_ (n:Int) (s:ByteArray) (l:List V) (h:s.size≤1000000000):Fun Tryz.prog 200 [.d (.v (.slice none 0 0)),.d (V.mk 2 n s l).d] [] (.row 0) [(0,rowB (V.mk 2 n s l).enc)] fun _=>False:=by
 have:=w6_ n s l (bs:=[]) (by simpa using h)
 exact eq_ (by simpa using this) rfl rfl (by simp) rfl
theorem yv_ (n:Int) (s:ByteArray) (l:List V) (h1:cD_ l=true) (h2:bH_ l=true) (h3:(V.enc (.mk 3 n s l)).length≤1000000000) :
  Fun Tryz.prog 201 [.d (.v (.slice none 0 0)),.d (V.mk 3 n s l).d,.ptr 1001 0] [(1001,wc 1002),(1002,wb 1001)] (.row 0) [(0,rowB (V.enc (.mk 3 n s l))),(1001,wc 1002),(1002,wb 1001)] fun _=>False:=by
 have:=D4_ _ n s l [] (Nat.le_refl _) h1 h2 (by simpa using h3)
 exact eq_ (by simpa using this) rfl (by simp) (by simp) rfl
def V.encB (v:V):List UInt8:=if v.chk=0 then v.enc else []
theorem lj_ {v:V} (h:v.chk=0):v.ok=true:=by
 rw[V.chk] at h
 split at h
 ·assumption
 ·cases h
theorem AG_ (v:V) (hd:v.dep≤1000000) (hr:v.rng=true) (hl:v.enc.length≤1000000000):Fn0 Tryz.prog 124 [v.d] (.tup [slB v.encB,.v (.int .i64 v.chk)]):=by
 refine ac_ (pn:=ao_) aa_ Tryz.func124 rfl fun β0=>?_
 simp only[Tryz.f124]
 obtain⟨k,n,s,l⟩:=v
 rw[V.d,V.cells]
 repeat(first|apply wG|(apply wR;simp -dsimp)|refine aI ?_)
 refine ad_ mZ_ (AE_ (.mk k n s l) hd) rfl rfl (by simp[V.d,V.cells]) ?_
 simp -dsimp
 repeat(first|apply wG|(apply wR;simp -dsimp)|refine aI ?_)
 refine WP.cond (b := !decide (V.chk (.mk k n s l)=0)) (by simp) (fun hb=>?_) (fun hb=>?_)
 ·have hb:¬ V.chk (.mk k n s l)=0:=by simpa using hb
  repeat(first|apply wG|(apply wR;simp -dsimp)|refine aI ?_)
  refine WP.ret (finQ.ret ?_)
  simp -dsimp[V.encB,hb,slB]
 have hb:V.chk (.mk k n s l)=0:=by simpa using hb
 refine WP.skip ?_
 simp -dsimp
 repeat(first|apply wG|(apply wR;simp -dsimp)|refine aI ?_)
 rcases mO_ (lj_ hb) with rfl|rfl|⟨rfl,hokl⟩
 ·refine vcStop.call eb_ (tL_) (rl [(0,10),(1,600)]) rfl rfl (by simp[BoxLeq]) (ai_ (by simp[BoxLeq]) rfl (by first|rfl|(simp[BoxLeq];done)) (by simp[BoxLeq]) (by simp[BoxLeq])) (fun _ h=>h.elim) (fun ⟨_,h⟩=>h.elim) (fun ⟨_,h⟩=>h.elim) (by simp[BoxLeq]) ?_
  simp -dsimp
  repeat refine aI ?_
  refine vcStop.call gN_ (yx_ (d5_ hr).1 s l) (rl [(0,18)]) rfl rfl (by simp[V.d,V.cells,BoxLeq]) (ai_ (by simp[V.d,V.cells,BoxLeq]) rfl (by first|rfl|(simp[V.d,V.cells,BoxLeq];done)) (by simp[V.d,V.cells,BoxLeq]) (by simp[V.d,V.cells,BoxLeq])) (fun _ h=>h.elim) (fun ⟨_,h⟩=>h.elim) (fun ⟨_,h⟩=>h.elim) (by simp[V.d,V.cells,BoxLeq]) ?_
  simp -dsimp
  repeat(first|apply wG|(apply wR;simp -dsimp)|refine aI ?_)
  refine WP.ret (aU_ (Wk.freeze (k:=18) (T:=5) (sz:=1) (ds:=bys _) (by simp;exact⟨rfl,rfl⟩)) ?_)
  simp[V.encB,hb,slB]
 ·refine vcStop.call eb_ (tL_) (rl [(0,10),(1,600)]) rfl rfl (by simp[BoxLeq]) (ai_ (by simp[BoxLeq]) rfl (by first|rfl|(simp[BoxLeq];done)) (by simp[BoxLeq]) (by simp[BoxLeq])) (fun _ h=>h.elim) (fun ⟨_,h⟩=>h.elim) (fun ⟨_,h⟩=>h.elim) (by simp[BoxLeq]) ?_
  simp -dsimp
  repeat refine aI ?_
  have hx:s.size≤1000000000:=by simp[V.enc] at hl;omega
  refine vcStop.call gM_ (yw_ n s l hx) (rl [(0,18)]) rfl rfl (by simp[V.d,V.cells,BoxLeq]) (ai_ (by simp[V.d,V.cells,BoxLeq]) rfl (by first|rfl|(simp[V.d,V.cells,BoxLeq];done)) (by simp[V.d,V.cells,BoxLeq]) (by simp[V.d,V.cells,BoxLeq])) (fun _ h=>h.elim) (fun ⟨_,h⟩=>h.elim) (fun ⟨_,h⟩=>h.elim) (by simp[V.d,V.cells,BoxLeq]) ?_
  simp -dsimp
  repeat(first|apply wG|(apply wR;simp -dsimp)|refine aI ?_)
  refine WP.ret (aU_ (Wk.freeze (k:=18) (T:=5) (sz:=1) (ds:=bys _) (by simp;exact⟨rfl,rfl⟩)) ?_)
  simp[V.encB,hb,slB]
 ·refine vcStop.call eb_ (tL_) (rl [(0,10),(1,600)]) rfl rfl (by simp[BoxLeq]) (ai_ (by simp[BoxLeq]) rfl (by first|rfl|(simp[BoxLeq];done)) (by simp[BoxLeq]) (by simp[BoxLeq])) (fun _ h=>h.elim) (fun ⟨_,h⟩=>h.elim) (fun ⟨_,h⟩=>h.elim) (by simp[BoxLeq]) ?_
  simp -dsimp
  repeat refine aI ?_
  refine vcStop.call gL_ (yv_ n s l hokl (d5_ hr).2 hl) (rl [(1001,600),(1002,10),(0,18)]) rfl rfl (by simp[V.d,V.cells,BoxLeq]) (ai_ (by simp[V.d,V.cells,BoxLeq]) rfl (by first|rfl|(simp[V.d,V.cells,BoxLeq];done)) (by simp[V.d,V.cells,BoxLeq]) (by simp[V.d,V.cells,BoxLeq])) (fun _ h=>h.elim) (fun ⟨_,h⟩=>h.elim) (fun ⟨_,h⟩=>h.elim) (by simp[V.d,V.cells,BoxLeq]) ?_
  simp -dsimp
  repeat(first|apply wG|(apply wR;simp -dsimp)|refine aI ?_)
  refine WP.ret (aU_ (Wk.freeze (k:=18) (T:=5) (sz:=1) (ds:=bys _) (by simp;exact⟨rfl,rfl⟩)) ?_)
  simp[V.encB,hb,slB]
end Go.Proofs.YtdjkbdhdejlakaaGreatDoor
namespace Go.Proofs.YtdjkbdhdejlakaaGreatDoor
open Go.Xe Go.RowKit
@[simp] theorem Eu_ (l:List UInt8):slB l=.sl 1 (bys l) l.length false:=rfl
theorem D8_:∀ (N:Nat) (v:V),v.sz≤N→v.rng=true→v.enc.length≤1000000000→Fn0 Tryz.prog 184 [v.d] (slB v.enc):=by
 intro N
 induction N with
 | zero=>rintro⟨k,n,s,l⟩ hN;rw[V.sz] at hN;omega
 | succ N ih =>
  rintro⟨k,n,s,l⟩ hN hrg hlen
  refine ac_ (pn:=ao_) aa_ Tryz.func184 rfl fun β0=>?_
  simp only[Tryz.f184]
  rw[V.d,V.cells]
  refine un_ (.tmp 0) 3 rfl fun hl=>?_
  have hm:maxLen=9223372036854775807:=rfl
  rw[hm] at hl
  have hI:=(d5_ hrg).1
  repeat(first|apply wG|(apply wR;simp -dsimp)|refine aI ?_)
  refine WP.cond (b:=decide (k=1)) (by simp) (fun hb=>?_) (fun hb=>?_)
  ·have hb:=of_decide_eq_true hb
   subst hb
   repeat(first|apply wG|(apply wR;simp -dsimp)|refine aI ?_)
   refine ad_ mT_ (Av_ hI) rfl rfl (by simp) ?_
   simp -dsimp
   repeat refine aI ?_
   refine ad_ cP_ (qs_ _ (lw_ hI)) rfl rfl (by simp) ?_
   have:=a8_ (lw_ hI)
   simp -dsimp
   repeat(first|apply wG|(apply wR;simp -dsimp)|refine aI ?_)
   refine WP.ret (aU_ (Wk.freeze (k:=14) (T:=5) (sz:=1) (ds:=bys (1::bZ_ (zig n))) (by simp;rfl)) ?_)
   simp[V.enc,Nat.add_comm,Nat.add_left_comm]
  have hk1:¬ k=1:=of_decide_eq_false hb
  repeat(first|apply wG|(apply wR;simp -dsimp)|refine aI ?_)
  refine WP.cond (b:=decide (k=2)) (by simp) (fun hb=>?_) (fun hb=>?_)
  ·have hb:=of_decide_eq_true hb
   subst hb
   have hx:s.size≤1000000000:=by simp[V.enc] at hlen;omega
   have e1:IntKind.u64.wrap (s.size:Int)=(s.size:Nat):=IntWalk.u64_in _ (by omega)
   repeat(first|apply wG|(apply wR;simp -dsimp)|refine aI ?_)
   rw[e1]
   refine ad_ cP_ (qs_ s.size (by unfold isU;omega)) rfl rfl (by simp) ?_
   have:=a8_ (u:=s.size) (by unfold isU;omega)
   simp -dsimp
   repeat(first|apply wG|(apply wR;simp -dsimp)|refine aI ?_)
   refine WP.ret (aU_ (Wk.freeze (k:=26) (T:=5) (sz:=1) (ds:=bys (2::(bZ_ s.size++s.data.toList))) (by simp;rfl)) ?_)
   simp[V.enc,Nat.add_comm,Nat.add_left_comm]
  have hk2:¬ k=2:=of_decide_eq_false hb
  have he:(V.mk k n s l).enc=3::(bZ_ l.length++aA_ l):=by simp[V.enc,hk1,hk2]
  have e1:IntKind.u64.wrap (l.length:Int)=(l.length:Nat):=IntWalk.u64_in _ (by omega)
  have hd:=a8_ (u:=l.length) (by unfold isU;omega)
  have hlen':1+(bZ_ l.length).length+(aA_ l).length≤1000000000:=by
   rw[he] at hlen;simp at hlen;omega
  have hrgl:=(d5_ hrg).2
  refine WP.skip ?_
  simp -dsimp
  repeat(first|apply wG|(apply wR;simp -dsimp)|refine aI ?_)
  rw[e1]
  refine ad_ cP_ (qs_ l.length (by unfold isU;omega)) rfl rfl (by simp) ?_
  simp -dsimp
  repeat(first|apply wG|(apply wR;simp -dsimp)|refine aI ?_)
  refine ak_ (fun m S=>∃ l1 l2,l=l1++l2∧m=l2.length∧S=mkS 50 [(1,.ptr 1 0),(3,.row 500),(4,.d (.v (.int .i64 l1.length)))] [(1,bV k n s l),(500,rowB (3::(bZ_ l.length++aA_ l1)))]) l.length
   (S0:=mkS 50 [(1,.ptr 1 0),(3,.row 500),(4,.d (.v (.int .i64 0)))] [(1,bV k n s l),(500,rowB (3::(bZ_ l.length++aA_ [])))]) (Wk.go [] 33 500 (by decide) (by simp) (by simp) (by simp[aA_];omega)) ⟨[],l,rfl,rfl,by simp⟩ ?_
  rintro _ _ ⟨l1,l2,hl12,rfl,rfl⟩
  simp -dsimp
  repeat(first|apply wG|(apply wR;simp -dsimp)|refine aI ?_)
  cases l2 with
  | nil =>
   simp only[List.append_nil] at hl12
   subst hl12
   refine cF (by simp) ?_
   refine WP.exit ?_
   simp -dsimp
   repeat(first|apply wG|(apply wR;simp -dsimp)|refine aI ?_)
   refine WP.ret (aU_ (Wk.freeze (k:=500) (T:=5) (sz:=1) (ds:=bys (3::(bZ_ l.length++aA_ l))) (by simp;rfl)) ?_)
   simp[he]
  | cons v l2 =>
   have hll:l.length=l1.length+(l2.length+1):=by rw[hl12];simp
   refine cT (by simp;omega) ?_
   refine WP.skip ?_
   simp -dsimp
   refine WP.seq (WP.block ?_)
   have hv:=c6_ l1 v l2
   rw[← hl12] at hv
   have hrgv:v.rng=true:=by rw[hl12,dz_,bH_] at hrgl;simp only[Bool.and_eq_true] at hrgl;exact hrgl.2.1
   have hlv:1+(bZ_ l.length).length+(aA_ l1).length+v.enc.length≤1000000000:=by
    have:(aA_ l).length=(aA_ l1).length+(v.enc.length+(aA_ l2).length):=by rw[hl12,aV_,aA_];simp
    omega
   obtain⟨k',n',s',lv⟩:=v
   rw[V.cells] at hv
   have e2:IntKind.i64.wrap ((l1.length:Int)+1)=(l1.length:Int)+1:=IntWalk.i64_in _ (by omega)
   repeat(first|apply wG|(apply wR;simp -dsimp[hv])|refine aI ?_)
   refine ad_ gQ_ (ih (.mk k' n' s' lv) (iy_ (by rw[← hl12];exact hN)) hrgv (by omega)) rfl rfl (by simp[V.d,V.cells]) ?_
   simp -dsimp
   repeat(first|apply wG|(apply wR;simp -dsimp)|refine aI ?_)
   refine loopW.next (mkS 50 [(1,.ptr 1 0),(3,.row 500),(4,.d (.v (.int .i64 (l1++[V.mk k' n' s' lv]).length)))] [(1,bV k n s l),(500,rowB (3::(bZ_ l.length++aA_ (l1++[.mk k' n' s' lv]))))])
    (Wk.go [] 48 500 (by decide) (by simp) (by simp[e2]) (by simp[aV_,aA_];omega)) l2.length (by simp) ⟨l1++[.mk k' n' s' lv],l2,by simp[hl12],rfl,rfl⟩
theorem AB_ (v:V) (h1:v.rng=true) (h2:v.enc.length≤1000000000):Fn0 Tryz.prog 184 [v.d] (slB v.enc):=D8_ v.sz v (Nat.le_refl _) h1 h2
theorem AF_ (v:V) (hd:v.dep≤1000000) (hr:v.rng=true) (hl:v.enc.length≤1000000000):Fn0 Tryz.prog 131 [v.d] (.tup [slB v.encB,.v (.int .i64 v.chk)]):=by
 refine ac_ (pn:=ao_) aa_ Tryz.func131 rfl fun β0=>?_
 simp only[Tryz.f131]
 obtain⟨k,n,s,l⟩:=v
 rw[V.d,V.cells]
 repeat(first|apply wG|(apply wR;simp -dsimp)|refine aI ?_)
 refine ad_ mX_ (AD_ (.mk k n s l) hd) rfl rfl (by simp[V.d,V.cells]) ?_
 simp -dsimp
 repeat(first|apply wG|(apply wR;simp -dsimp)|refine aI ?_)
 refine WP.cond (b := !decide (V.chk (.mk k n s l)=0)) (by simp) (fun hb=>?_) (fun hb=>?_)
 ·have hb:¬ V.chk (.mk k n s l)=0:=by simpa using hb
  repeat(first|apply wG|(apply wR;simp -dsimp)|refine aI ?_)
  refine WP.ret (finQ.ret ?_)
  simp -dsimp[V.encB,hb]
 have hb:V.chk (.mk k n s l)=0:=by simpa using hb
 refine WP.skip ?_
 simp -dsimp
 repeat(first|apply wG|(apply wR;simp -dsimp)|refine aI ?_)
 refine ad_ gQ_ (AB_ (.mk k n s l) hr hl) rfl rfl (by simp[V.d,V.cells]) ?_
 simp -dsimp
 repeat(first|apply wG|(apply wR;simp -dsimp)|refine aI ?_)
 refine WP.ret (finQ.ret ?_)
 simp -dsimp[V.encB,hb]
end Go.Proofs.YtdjkbdhdejlakaaGreatDoor
namespace Go.Proofs.YtdjkbdhdejlakaaGreatDoor
open Go.Xe Go.RowKit
mutual
def V.same:V→V→Bool
 | .mk k n s l,.mk k' n' s' l'=>decide (k=k')&&decide (n=n')&&decide (s=s')&&up_ l l'
def up_:List V→List V→Bool
 | [],[]=>true
 | v::l,v'::l'=>V.same v v'&&up_ l l'
 | _,_=>false
end
end Go.Proofs.YtdjkbdhdejlakaaGreatDoor
namespace Go.Proofs.YtdjkbdhdejlakaaGreatDoor
open Go.Xe Go.RowKit
end Go.Proofs.YtdjkbdhdejlakaaGreatDoor
namespace Go.Proofs.YtdjkbdhdejlakaaGreatDoor
open Go.Xe Go.RowKit
theorem AC_ (n:Int):Fn0 Tryz.prog 185 [.v (.int .i64 n)] (V.mk 1 n ⟨#[]⟩ []).d:=by
 refine ac_ (pn:=ao_) aa_ Tryz.func185 rfl fun β0=>?_
 simp only[Tryz.f185]
 repeat(first|apply wG|(apply wR;simp -dsimp)|refine aI ?_)
 refine WP.ret (finQ.ret ?_)
 simp -dsimp[V.d,V.cells,aE_]
end Go.Proofs.YtdjkbdhdejlakaaGreatDoor
