/-
  Joined texts.
-/
import Derived.Test.YtfgcgagcpnbgmaaGreatDoorGNU
import Derived.Test.YtfgcgagcpnbgmaaGreatDoorG3
set_option linter.all false
set_option maxRecDepth 10000
set_option maxHeartbeats 4000000
namespace Go.Proofs.YtfgcgagcpnbgmaaGreatDoor
open Go.Xe Go.RowKit
theorem B1_ {n:Int} (h:isI n):Fn0 Tryz.prog 215 [.v (.int .i64 n)] (.v (.int .u64 (zig n))):=by
 refine ad_ (pn:=an_) ac_ Tryz.func215 rfl fun β0=>?_
 simp only[Tryz.f215]
 refine sG ?_
 refine WP.ret (finQ.ret ?_)
 simp -dsimp[l4_ h]
theorem xU_ {u:Nat} (h:isU u):Fn0 Tryz.prog 257 [.v (.int .u64 u)] (.v (.int .i64 (zag u))):=by
 refine ad_ (pn:=an_) ac_ Tryz.func257 rfl fun β0=>?_
 simp only[Tryz.f257]
 refine sG ?_
 refine WP.ret (finQ.ret ?_)
 simp -dsimp[ro_ h]
theorem B0_ {n:Int} (h:isI n):Fn0 Tryz.prog 233 [.v (.int .i64 n)] (.v (.int .u64 (zig n))):=by
 refine ad_ (pn:=an_) ac_ Tryz.func233 rfl fun β0=>?_
 simp only[Tryz.f233]
 refine sG ?_
 refine WP.cond (b:=decide (0≤n)) (by simp) (fun hb=>?_) (fun hb=>?_)
 ·refine sG ?_
  refine WP.ret (finQ.ret ?_)
  simp -dsimp
  rw[rj_ h (by simpa using hb)]
  exact .refl _
 ·refine WP.skip ?_
  refine sG ?_
  refine WP.ret (finQ.ret ?_)
  simp -dsimp
  rw[yd_ h (by simpa using hb)]
  exact .refl _
def s38 (u:Nat) (bs:List UInt8):St :=
 ⟨[.row 500,.d (.v (.int .u64 u))]++List.replicate 18 (.d .any),[(500,.row 5 1 bs.length ((bys bs).map .d))],[]⟩
attribute [local simp] s38
theorem B2_ {u:Nat} (h:isU u) {bs:List UInt8} (hb:bs.length≤1000000000000) :
  Fun Tryz.prog 214 [.row 1000,.d (.v (.int .u64 u))] [(1000,.row 5 1 bs.length ((bys bs).map .d))] (.row 0) [(0,.row 5 1 (bs++digs u).length ((bys (bs++digs u)).map .d))] fun _=>False:=by
 refine ad_ (pn:=an_) ac_ Tryz.func214 rfl fun β0=>?_
 simp only[Tryz.f214]
 refine WP.seq (WP.region ac_ ?_);simp
 refine WP.seq (WP.block ?_)
 refine ai_ (fun m S=>∃ bs',S=s38 m bs'∧bs'.length+(digs m).length≤bs.length+10∧bs'++digs m=bs++digs u) u (S0:=s38 u bs) (Wk.go [] 1000 500 (by decide) (by simp) (by simp) (by simp)) ⟨bs,rfl,by have:=bd_ h;omega,rfl⟩ ?_
 rintro m _ ⟨bs',rfl,h1,h2⟩
 have hd:=wP_ m
 refine sG ?_
 refine WP.cond (b:=decide (128≤m)) (by simp;omega) (fun hb=>?_) (fun hb=>?_)
 ·refine WP.skip ?_
  simp -dsimp
  refine sG ?_
  refine loopW.next (s38 (m/128) (bs'++[UInt8.ofNat (m%128+128)])) (Wk.go [13] 14 500 (by decide) (by simp) (by simp[shr7_num]) (by simp[digit_num])) (m/128) ?_ ⟨_,rfl,?_,?_⟩
  ·have:=of_decide_eq_true hb;omega
  ·rw[digs] at h1
   rw[if_neg (by have:=of_decide_eq_true hb;omega)] at h1
   simp at h1 ⊢;omega
  ·rw[digs] at h2
   rw[if_neg (by have:=of_decide_eq_true hb;omega)] at h2
   simpa using h2
 ·refine WP.exit ?_
  simp -dsimp
  refine sG ?_
  refine WP.ret (aW_ (S':=⟨List.replicate 4 (.d .any)++[.row 0]++List.replicate 15 (.d .any),[(0,.row 5 1 (bs++digs u).length ((bys (bs++digs u)).map .d))],[]⟩) (Wk.go [18] 19 0 (by decide) (by simp) (by simp) ?_) ?_)
  ·have h3:=of_decide_eq_false hb
   rw[digs,if_pos (by omega)] at h2
   rw[← h2]
   simp[qB_]
  ·simp
theorem qR_:∀ (u:Nat),isU u→Fn0 Tryz.prog 232 [.v (.int .u64 u)] (slB (digs u))
 | u,h=>by
  refine ad_ (pn:=an_) ac_ Tryz.func232 rfl fun β0=>?_
  simp only[Tryz.f232]
  refine sG ?_
  refine WP.cond (b:=decide (u<128)) (by simp;omega) (fun hb=>?_) (fun hb=>?_)
  ·refine sG ?_
   refine WP.ret (aW_ (Wk.freeze (k:=7) (T:=5) (sz:=1) (n:=1) (ds:=[.v (.int .u8 (IntKind.u8.wrap u))]) (by simp)) ?_)
   rw[digs,if_pos (of_decide_eq_true hb)]
   simp[qB_,slB]
  ·refine WP.skip ?_
   have hu:128≤u:=by simpa using hb
   simp -dsimp
   refine WP.seq (WP.region ac_ ?_)
   simp -dsimp
   repeat refine aI ?_
   refine aa_ cV_ (qR_ (u/128) (by unfold isU at h ⊢;omega)) rfl rfl ?_ ?_
   ·have:IntKind.u64.wrap ((u:Int)/128)=(u:Int)/128:=IntWalk.u64_in _ (by unfold isU at h;omega)
    simp[this]
   have hl:=bd_ (u:=u/128) (by unfold isU at h ⊢;omega)
   simp[slB]
   repeat refine aI ?_
   refine sG ?_
   refine WP.ret (aW_ (Wk.freeze (k:=16) (T:=5) (sz:=1) (ds:=.v (.int .u8 (IntKind.u8.wrap (IntKind.u64.wrap ((u:Int).tmod 128+128))))::bys (digs (u/128))) (by simp;rfl)) ?_)
   rw[digs,if_neg (by omega)]
   simp[sc_,slB,Nat.add_comm]
termination_by u=>u
decreasing_by omega
end Go.Proofs.YtfgcgagcpnbgmaaGreatDoor
namespace Go.Proofs.YtfgcgagcpnbgmaaGreatDoor
open Go.Xe Go.RowKit
inductive V where
 | mk (k n:Int) (s:ByteArray) (l:List V)
 deriving Inhabited
mutual
def V.cells:V→List D
 | .mk k n s l=>[.v (.int .i64 k),.v (.int .i64 n),.v (.string s),.sl 4 (aq_ l) l.length false]
def aq_:List V→List D
 | []=>[]
 | v::l=>V.cells v++aq_ l
end
def V.d (v:V):D:=.agg v.cells
@[simp] def slV (l:List V):D:=.sl 4 (aq_ l) l.length false
theorem eR_:∀ v:V,v.cells.length=4
 | .mk .. => by simp[V.cells]
theorem bC_:∀ a b:List V,aq_ (a++b)=aq_ a++aq_ b
 | [],b=>by simp[aq_]
 | v::a,b=>by simp[aq_,bC_ a b]
theorem ec_:∀ a:List V,(aq_ a).length=a.length*4
 | []=>rfl
 | v::a=>by simp[aq_,eR_,ec_ a];omega
theorem lL_ (a b:List V):(aq_ (a++b)).drop (a.length*4)=aq_ b:=by
 rw[bC_,← ec_,List.drop_left]
theorem b7_ (a:List V) (v:V) (b:List V):((aq_ (a++v::b)).drop (a.length*4)).take 4=v.cells:=by
 rw[lL_,aq_,← eR_ v,List.take_left]
mutual
def V.ok:V→Bool
 | .mk k n s l=>if k=1 then decide (s=⟨#[]⟩)&&decide (l.length=0) else if k=2 then decide (n=0)&&decide (l.length=0)
   else if k=3 then decide (n=0)&&decide (s=⟨#[]⟩)&&co_ l else false
def co_:List V→Bool
 | []=>true
 | v::l=>V.ok v&&co_ l
end
mutual
def V.dep:V→Nat
 | .mk k _ _ l=>if k=3 then aX_ l+1 else 0
def aX_:List V→Nat
 | []=>0
 | v::l=>max (V.dep v) (aX_ l)
end
theorem bR_:∀ a b:List V,co_ (a++b)=(co_ a&&co_ b)
 | [],b=>by simp[co_]
 | v::a,b=>by simp[co_,bR_ a b,Bool.and_assoc]
theorem bZ_:∀ a b:List V,aX_ (a++b)=max (aX_ a) (aX_ b)
 | [],b=>by simp[aX_]
 | v::a,b=>by simp[aX_,bZ_ a b,Nat.max_assoc]
mutual
def V.enc:V→List UInt8
 | .mk k n s l=>if k=1 then 1::digs (zig n) else if k=2 then 2::(digs s.size++s.data.toList) else 3::(digs l.length++ax_ l)
def ax_:List V→List UInt8
 | []=>[]
 | v::l=>V.enc v++ax_ l
end
theorem ba_:∀ a b:List V,ax_ (a++b)=ax_ a++ax_ b
 | [],b=>by simp[ax_]
 | v::a,b=>by simp[ax_,ba_ a b]
mutual
def V.rng:V→Bool
 | .mk k n s l=>decide (-9223372036854775808≤k∧k≤9223372036854775807)&&decide (s.size≤140737488355328)&&decide (-9223372036854775808≤n∧n≤9223372036854775807)&&bm_ l
def bm_:List V→Bool
 | []=>true
 | v::l=>V.rng v&&bm_ l
end
theorem dB_:∀ a b:List V,bm_ (a++b)=(bm_ a&&bm_ b)
 | [],b=>by simp[bm_]
 | v::a,b=>by simp[bm_,dB_ a b,Bool.and_assoc]
mutual
def V.sz:V→Nat
 | .mk _ _ _ l=>nk_ l+1
def nk_:List V→Nat
 | []=>0
 | v::l=>V.sz v+nk_ l
end
theorem g0_:∀ a b:List V,nk_ (a++b)=nk_ a+nk_ b
 | [],b=>by simp[nk_]
 | v::a,b=>by simp[nk_,g0_ a b,Nat.add_assoc]
theorem i6_ {k n:Int} {s:ByteArray} {l1 l2:List V} {v:V} {N:Nat} (h:(V.mk k n s (l1++v::l2)).sz≤N+1):v.sz≤N:=by
 rw[V.sz,g0_,nk_] at h;omega
end Go.Proofs.YtfgcgagcpnbgmaaGreatDoor
namespace Go.Proofs.YtfgcgagcpnbgmaaGreatDoor
open Go.Xe Go.RowKit
theorem Fg_:∀ (N:Nat) (v:V),v.sz≤N→v.dep≤1000000→Fn0 Tryz.prog 212 [v.d] (.tup [.v (.int .i64 (if v.ok=true then (v.dep:Int) else 0)),.v (.bool v.ok)]):=by
 intro N
 induction N with
 | zero=>rintro⟨k,n,s,l⟩ hN;rw[V.sz] at hN;omega
 | succ N ih =>
  rintro⟨k,n,s,l⟩ hN hd
  refine ad_ (pn:=an_) ac_ Tryz.func212 rfl fun β0=>?_
  simp only[Tryz.f212]
  rw[V.d,V.cells]
  rcases (by omega:k<1∨3<k∨k=1∨k=2∨k=3) with hk|hk|rfl|rfl|rfl
  ·have hk0:k.toNat=0:=by omega
   have hk1:¬ k=1:=by omega
   have hk2:¬ k=2:=by omega
   have hk3:¬ k=3:=by omega
   repeat(first|apply wG|(apply wR;simp -dsimp[hk,hk0])|refine aI ?_)
   refine cT (by simp) ?_
   refine sG ?_
   refine WP.ret (finQ.ret ?_)
   simp -dsimp[V.ok,V.dep,hk1,hk2,hk3]
  ·obtain⟨j,rfl⟩:∃ j:Nat,k=((j+4:Nat):Int):=⟨(k-4).toNat,by omega⟩
   have hk1:¬ ((j:Int)+4<1):=by omega
   have hk2:((j:Int)+4).toNat=j+4:=by omega
   have hk3:(3:Int)<(j:Int)+4:=by omega
   have hk4:¬ (j:Int)+4=1:=by omega
   have hk5:¬ (j:Int)+4=2:=by omega
   have hk6:¬ (j:Int)+4=3:=by omega
   repeat(first|apply wG|(apply wR;simp -dsimp[hk1,hk2,hk3])|refine aI ?_)
   refine vcStopG.skip (.d (.v (.bool false))) ?_
   simp -dsimp
   refine cT (by simp) ?_
   refine sG ?_
   refine WP.ret (finQ.ret ?_)
   simp -dsimp[V.ok,V.dep,hk4,hk5,hk6]
  ·refine sG ?_
   refine WP.cond (b := !(V.ok (.mk 1 n s l))) (by simp[V.ok]) (fun hb=>?_) (fun hb=>?_)
   ·simp at hb
    refine sG ?_
    refine WP.ret (finQ.ret ?_)
    simp -dsimp[hb]
   ·simp at hb
    refine WP.skip ?_
    simp -dsimp
    refine sG ?_
    refine cT (by simp) ?_
    refine sG ?_
    refine WP.ret (finQ.ret ?_)
    simp -dsimp[hb,V.dep]
  ·refine sG ?_
   refine WP.cond (b := !(V.ok (.mk 2 n s l))) (by simp[V.ok]) (fun hb=>?_) (fun hb=>?_)
   ·simp at hb
    refine sG ?_
    refine WP.ret (finQ.ret ?_)
    simp -dsimp[hb]
   ·simp at hb
    refine WP.skip ?_
    simp -dsimp
    refine sG ?_
    refine cT (by simp) ?_
    refine sG ?_
    refine WP.ret (finQ.ret ?_)
    simp -dsimp[hb,V.dep]
  ·refine sG ?_
   refine WP.cond (b := !(decide (n=0)&&decide (s=⟨#[]⟩))) (by simp) (fun hb=>?_) (fun hb=>?_)
   ·have hb:V.ok (.mk 3 n s l)=false:=by simp at hb;simp[V.ok];intro h1 h2;rcases hb with h|h;exact absurd h1 h;exact absurd h2 h
    refine sG ?_
    refine WP.ret (finQ.ret ?_)
    simp -dsimp[hb]
   ·simp at hb
    obtain⟨rfl,rfl⟩:=hb
    refine WP.skip ?_
    simp -dsimp
    refine sG ?_
    refine cF (by simp) ?_
    refine WP.skip ?_
    simp -dsimp
    refine sG ?_
    refine WP.len (.tmp 55) rfl fun hl=>?_
    have hd':aX_ l+1≤1000000:=by simpa [V.dep] using hd
    have hm:maxLen=9223372036854775807:=rfl
    rw[hm] at hl
    refine ai_ (fun m S=>∃ l1 l2,l=l1++l2∧m=l2.length∧co_ l1=true∧S=mkS 74 [(2,.d (.v (.int .i64 (aX_ l1)))),(55,.d (slV l)),(56,.d (.v (.int .i64 l.length))),(57,.d (.v (.int .i64 l1.length)))] []) l.length
     (S0:=mkS 74 [(2,.d (.v (.int .i64 0))),(55,.d (slV l)),(56,.d (.v (.int .i64 l.length))),(57,.d (.v (.int .i64 0)))] []) (af_ [1,4] (by simp[slV]) (by simp)) ⟨[],l,rfl,rfl,rfl,by simp[aX_]⟩ ?_
    rintro _ _ ⟨l1,l2,rfl,rfl,h1,rfl⟩
    simp only[List.length_append] at hl
    rw[bZ_] at hd'
    simp -dsimp[slV]
    refine sG ?_
    cases l2 with
    | nil =>
     refine cF (by simp) ?_
     refine WP.exit ?_
     simp -dsimp
     refine sG ?_
     simp[aX_] at hd'
     have e1:IntKind.i64.wrap ((aX_ l1:Int)+1)=(aX_ l1:Int)+1:=IntWalk.i64_in _ (by omega)
     refine WP.ret (finQ.ret ?_)
     simp -dsimp[V.ok,V.dep,h1,e1]
    | cons v l2 =>
     refine cT (by simp;omega) ?_
     refine WP.skip ?_
     simp -dsimp
     refine WP.seq (WP.block ?_)
     have hv:=b7_ l1 v l2
     obtain⟨k,n,s,lv⟩:=v
     rw[V.cells] at hv
     repeat(first|apply wG|(apply wR;simp -dsimp[hv])|refine aI ?_)
     have hdv:(V.mk k n s lv).dep≤1000000:=by simp only[aX_] at hd';omega
     refine aa_ hc_ (ih (.mk k n s lv) (i6_ hN) hdv) rfl rfl (by simp[V.d,V.cells]) ?_
     simp -dsimp
     refine sG ?_
     refine WP.cond (b := !(V.ok (.mk k n s lv))) (by simp) (fun hb=>?_) (fun hb=>?_)
     ·have hb:V.ok (.mk 3 0 ⟨#[]⟩ (l1 ++ .mk k n s lv::l2))=false:=by
       simp only[Bool.not_eq_true'] at hb
       rw[V.ok,bR_,co_,hb];simp
      refine sG ?_
      refine WP.ret (finQ.ret ?_)
      simp -dsimp[hb]
     ·simp only[Bool.not_eq_false'] at hb
      refine WP.skip ?_
      simp -dsimp
      refine sG ?_
      have e1:IntKind.i64.wrap ((l1.length:Int)+1)=(l1.length:Int)+1:=IntWalk.i64_in _ (by simp at hl;omega)
      refine loopW.next (mkS 74 [(2,.d (.v (.int .i64 (aX_ (l1++[.mk k n s lv]))))),(55,.d (slV (l1 ++ .mk k n s lv::l2))),(56,.d (.v (.int .i64 ((l1++V.mk k n s lv::l2).length:Nat)))),(57,.d (.v (.int .i64 ((l1++[V.mk k n s lv]).length:Nat))))] [])
       (af_ [6] (by simp[slV,e1,hb,bZ_,aX_,FL_]) (by simp)) l2.length (by simp) ⟨l1++[.mk k n s lv],l2,by simp,rfl,by simp[bR_,co_,h1,hb],rfl⟩
theorem B6_ (v:V) (h:v.dep≤1000000):Fn0 Tryz.prog 212 [v.d] (.tup [.v (.int .i64 (if v.ok=true then (v.dep:Int) else 0)),.v (.bool v.ok)]):=Fg_ v.sz v (Nat.le_refl _) h
end Go.Proofs.YtfgcgagcpnbgmaaGreatDoor
namespace Go.Proofs.YtfgcgagcpnbgmaaGreatDoor
open Go.Xe Go.RowKit
def V.chk (v:V):Int:=if v.ok=true then (if 16<v.dep then 2 else 0) else 1
theorem Ca_ (v:V) (h:v.dep≤1000000):Fn0 Tryz.prog 164 [v.d] (.v (.int .i64 v.chk)):=by
 refine ad_ (pn:=an_) ac_ Tryz.func164 rfl fun β0=>?_
 simp only[Tryz.f164]
 obtain⟨k,n,s,l⟩:=v
 rw[V.d,V.cells]
 refine sG ?_
 refine aa_ hc_ (B6_ (.mk k n s l) h) rfl rfl (by simp[V.d,V.cells]) ?_
 simp -dsimp
 refine sG ?_
 cases hok:V.ok (.mk k n s l) with
 | false =>
  refine cT (by simp) ?_
  refine sG ?_
  refine WP.ret (finQ.ret ?_)
  simp -dsimp[V.chk,hok]
 | true =>
  refine cF (by simp) ?_
  refine sG ?_
  refine WP.cond (b:=decide (16<V.dep (.mk k n s l))) (by simp;omega) (fun hb=>?_) (fun hb=>?_)
  ·have hb:=of_decide_eq_true hb
   refine sG ?_
   refine WP.ret (finQ.ret ?_)
   simp -dsimp[V.chk,hok,hb]
  ·have hb:=of_decide_eq_false hb
   refine WP.skip ?_
   simp -dsimp
   refine sG ?_
   refine WP.ret (finQ.ret ?_)
   simp -dsimp[V.chk,hok,hb]
@[simp] def bV (k n:Int) (s:ByteArray) (l:List V):Box:=.cells 166 [.d (.v (.int .i64 k)),.d (.v (.int .i64 n)),.d (.v (.string s)),.d (slV l)]
theorem Ff_:∀ (N:Nat) (v:V),v.sz≤N→Fn0 Tryz.prog 230 [v.d] (.v (.bool v.ok)):=by
 intro N
 induction N with
 | zero=>rintro⟨k,n,s,l⟩ hN;rw[V.sz] at hN;omega
 | succ N ih =>
  rintro⟨k,n,s,l⟩ hN
  refine ad_ (pn:=an_) ac_ Tryz.func230 rfl fun β0=>?_
  simp only[Tryz.f230]
  rw[V.d,V.cells]
  refine sG ?_
  refine WP.cond (b:=decide (k=1)) (by simp) (fun hb=>?_) (fun hb=>?_)
  ·have hb:=of_decide_eq_true hb
   subst hb
   refine sG ?_
   refine WP.ret (finQ.ret ?_)
   simp -dsimp[V.ok]
  have hk1:¬ k=1:=of_decide_eq_false hb
  refine sG ?_
  refine WP.cond (b:=decide (k=2)) (by simp) (fun hb=>?_) (fun hb=>?_)
  ·have hb:=of_decide_eq_true hb
   subst hb
   refine sG ?_
   refine WP.ret (finQ.ret ?_)
   simp -dsimp[V.ok]
  have hk2:¬ k=2:=of_decide_eq_false hb
  refine sG ?_
  refine WP.cond (b:=decide (k=3)) (by simp) (fun hb=>?_) (fun hb=>?_)
  ·have hb:=of_decide_eq_true hb
   subst hb
   refine sG ?_
   refine ai_ (fun m S=>∃ l1 l2,l=l1++l2∧m=l2.length∧co_ l1=true∧S=mkS 52 [(1,.ptr 1 0),(3,.d (.v (.int .i64 l1.length)))] [(1,bV 3 n s l)]) l.length
    (S0:=mkS 52 [(1,.ptr 1 0),(3,.d (.v (.int .i64 0)))] [(1,bV 3 n s l)]) (af_ [] (by simp) (by simp[bV,slV])) ⟨[],l,rfl,rfl,rfl,by simp⟩ ?_
   rintro _ _ ⟨l1,l2,rfl,rfl,h1,rfl⟩
   simp -dsimp[bV,slV]
   refine sG ?_
   refine WP.len (.tmp 32) rfl fun hl=>?_
   have hm:maxLen=9223372036854775807:=rfl
   rw[hm] at hl
   cases l2 with
   | nil =>
    refine cF (by simp) ?_
    refine WP.exit ?_
    simp -dsimp
    refine sG ?_
    refine WP.ret (finQ.ret ?_)
    simp -dsimp[V.ok,h1]
   | cons v l2 =>
    refine cT (by simp;omega) ?_
    refine WP.skip ?_
    simp -dsimp
    refine WP.seq (WP.block ?_)
    have hv:=b7_ l1 v l2
    obtain⟨k,n,s,lv⟩:=v
    rw[V.cells] at hv
    repeat(first|apply wG|(apply wR;simp -dsimp[hv])|refine aI ?_)
    refine aa_ g7_ (ih (.mk k n s lv) (i6_ hN)) rfl rfl (by simp[V.d,V.cells]) ?_
    simp -dsimp
    refine sG ?_
    refine WP.cond (b := !(V.ok (.mk k n s lv))) (by simp) (fun hb=>?_) (fun hb=>?_)
    ·simp only[Bool.not_eq_true'] at hb
     refine sG ?_
     refine WP.ret (finQ.ret ?_)
     simp -dsimp
     rw[V.ok,bR_,co_,hb]
     simp
    ·simp only[Bool.not_eq_false'] at hb
     refine WP.skip ?_
     simp -dsimp
     refine sG ?_
     have e1:IntKind.i64.wrap ((l1.length:Int)+1)=(l1.length:Int)+1:=IntWalk.i64_in _ (by simp at hl;omega)
     refine loopW.next (mkS 52 [(1,.ptr 1 0),(3,.d (.v (.int .i64 (l1++[V.mk k n s lv]).length)))] [(1,bV 3 _ _ (l1 ++ .mk k n s lv::l2))])
      (af_ [] (by simp[e1]) (by simp[bV,slV])) l2.length (by simp) ⟨l1++[.mk k n s lv],l2,by simp,rfl,by simp[bR_,co_,h1,hb],rfl⟩
  ·have hk3:¬ k=3:=of_decide_eq_false hb
   refine WP.skip ?_
   simp -dsimp
   refine sG ?_
   refine WP.ret (finQ.ret ?_)
   simp -dsimp[V.ok,hk1,hk2,hk3]
theorem B5_ (v:V):Fn0 Tryz.prog 230 [v.d] (.v (.bool v.ok)):=Ff_ v.sz v (Nat.le_refl _)
theorem Fe_:∀ (N:Nat) (v:V),v.sz≤N→v.dep≤1000000→Fn0 Tryz.prog 231 [v.d] (.v (.int .i64 v.dep)):=by
 intro N
 induction N with
 | zero=>rintro⟨k,n,s,l⟩ hN;rw[V.sz] at hN;omega
 | succ N ih =>
  rintro⟨k,n,s,l⟩ hN hd
  refine ad_ (pn:=an_) ac_ Tryz.func231 rfl fun β0=>?_
  simp only[Tryz.f231]
  rw[V.d,V.cells]
  refine sG ?_
  refine WP.cond (b := !decide (k=3)) (by simp) (fun hb=>?_) (fun hb=>?_)
  ·have hb:¬ k=3:=by simpa using hb
   refine sG ?_
   refine WP.ret (finQ.ret ?_)
   simp -dsimp[V.dep,hb]
  have hb:k=3:=by simpa using hb
  subst hb
  refine WP.skip ?_
  simp -dsimp
  refine sG ?_
  have hd':aX_ l+1≤1000000:=by simpa [V.dep] using hd
  refine ai_ (fun m S=>∃ l1 l2,l=l1++l2∧m=l2.length∧S=mkS 25 [(1,.ptr 1 0),(3,.d (.v (.int .i64 (aX_ l1)))),(4,.d (.v (.int .i64 l1.length)))] [(1,bV 3 n s l)]) l.length
   (S0:=mkS 25 [(1,.ptr 1 0),(3,.d (.v (.int .i64 0))),(4,.d (.v (.int .i64 0)))] [(1,bV 3 n s l)]) (af_ [] (by simp) (by simp[bV,slV])) ⟨[],l,rfl,rfl,by simp[aX_]⟩ ?_
  rintro _ _ ⟨l1,l2,rfl,rfl,rfl⟩
  simp -dsimp[bV,slV]
  refine sG ?_
  refine WP.len (.tmp 10) rfl fun hl=>?_
  have hm:maxLen=9223372036854775807:=rfl
  rw[hm] at hl
  rw[bZ_] at hd'
  cases l2 with
  | nil =>
   refine cF (by simp) ?_
   refine WP.exit ?_
   simp -dsimp
   refine sG ?_
   simp[aX_] at hd'
   have e1:IntKind.i64.wrap ((aX_ l1:Int)+1)=(aX_ l1:Int)+1:=IntWalk.i64_in _ (by omega)
   refine WP.ret (finQ.ret ?_)
   simp -dsimp[V.dep,e1]
  | cons v l2 =>
   refine cT (by simp;omega) ?_
   refine WP.skip ?_
   simp -dsimp
   refine WP.seq (WP.block ?_)
   have hv:=b7_ l1 v l2
   obtain⟨k,n,s,lv⟩:=v
   rw[V.cells] at hv
   repeat(first|apply wG|(apply wR;simp -dsimp[hv])|refine aI ?_)
   have hdv:(V.mk k n s lv).dep≤1000000:=by simp only[aX_] at hd';omega
   refine aa_ g6_ (ih (.mk k n s lv) (i6_ hN) hdv) rfl rfl (by simp[V.d,V.cells]) ?_
   simp -dsimp
   refine sG ?_
   have e1:IntKind.i64.wrap ((l1.length:Int)+1)=(l1.length:Int)+1:=IntWalk.i64_in _ (by simp at hl;omega)
   refine loopW.next (mkS 25 [(1,.ptr 1 0),(3,.d (.v (.int .i64 (aX_ (l1++[V.mk k n s lv]))))),(4,.d (.v (.int .i64 (l1++[V.mk k n s lv]).length)))] [(1,bV 3 _ _ (l1 ++ .mk k n s lv::l2))])
    (af_ [] (by simp[e1,bZ_,aX_,FL_]) (by simp[bV,slV])) l2.length (by simp) ⟨l1++[.mk k n s lv],l2,by simp,rfl,rfl⟩
theorem B4_ (v:V) (h:v.dep≤1000000):Fn0 Tryz.prog 231 [v.d] (.v (.int .i64 v.dep)):=Fe_ v.sz v (Nat.le_refl _) h
theorem x1_ (v:V) (h:v.dep≤1000000):Fn0 Tryz.prog 179 [v.d] (.v (.int .i64 v.chk)):=by
 refine ad_ (pn:=an_) ac_ Tryz.func179 rfl fun β0=>?_
 simp only[Tryz.f179]
 obtain⟨k,n,s,l⟩:=v
 rw[V.d,V.cells]
 refine sG ?_
 refine aa_ g7_ (B5_ (.mk k n s l)) rfl rfl (by simp[V.d,V.cells]) ?_
 simp -dsimp
 refine sG ?_
 cases hok:V.ok (.mk k n s l) with
 | false =>
  refine cT (by simp) ?_
  refine sG ?_
  refine WP.ret (finQ.ret ?_)
  simp -dsimp[V.chk,hok]
 | true =>
  refine cF (by simp) ?_
  refine WP.skip ?_
  simp -dsimp
  refine sG ?_
  refine aa_ g6_ (B4_ (.mk k n s l) h) rfl rfl (by simp[V.d,V.cells]) ?_
  simp -dsimp
  refine sG ?_
  refine WP.cond (b:=decide (16<V.dep (.mk k n s l))) (by simp;omega) (fun hb=>?_) (fun hb=>?_)
  ·have hb:=of_decide_eq_true hb
   refine sG ?_
   refine WP.ret (finQ.ret ?_)
   simp -dsimp[V.chk,hok,hb]
  ·have hb:=of_decide_eq_false hb
   refine WP.skip ?_
   simp -dsimp
   refine sG ?_
   refine WP.ret (finQ.ret ?_)
   simp -dsimp[V.chk,hok,hb]
end Go.Proofs.YtfgcgagcpnbgmaaGreatDoor
namespace Go.Proofs.YtfgcgagcpnbgmaaGreatDoor
open Go.Xe Go.RowKit
@[simp] def rowB (bs:List UInt8):Box:=.row 5 1 bs.length ((bys bs).map .d)
@[simp] theorem FP_:a8_ 1=.v (.int .u8 1):=rfl
@[simp] theorem FO_:a8_ 2=.v (.int .u8 2):=rfl
@[simp] theorem FN_:a8_ 3=.v (.int .u8 3):=rfl
@[simp] theorem BA_ (l:List UInt8):l.map a8_=bys l:=rfl
@[simp] theorem yp_ (s:ByteArray):s.data.size=s.size:=rfl
theorem vL_ (s:ByteArray):s.data.toList.length=s.size:=rfl
theorem pg_ {u:Nat} (h:isU u) {bs:List UInt8} (hb:bs.length≤1000000000000) :
  Fun Tryz.prog 214 [.row 1000,.d (.v (.int .u64 u))] [(1000,rowB bs)] (.row 0) [(0,rowB (bs++digs u))] fun _=>False:=B2_ h hb
theorem xX_ {n:Int} (h:isI n) (s:ByteArray) (l:List V) {bs:List UInt8} (hb:bs.length≤1000000000) :
  Fun Tryz.prog 213 [.row 1000,.d (V.mk 1 n s l).d] [(1000,rowB bs)] (.row 0) [(0,rowB (bs++(V.mk 1 n s l).enc))] fun _=>False:=by
 refine ad_ (pn:=an_) ac_ Tryz.func213 rfl fun β0=>?_
 simp only[Tryz.f213]
 rw[V.d,V.cells]
 simp -dsimp[rowB]
 refine sG ?_
 refine aa_ nw_ (B1_ h) rfl rfl (by simp) ?_
 simp -dsimp
 repeat refine aI ?_
 refine vcStop.call eh_ (pg_ (lW_ h) (bs:=bs++[1]) (by simp;omega)) (rl [(1000,7),(0,11)]) rfl rfl (by simp[rowB,BoxLeq]) (ag_ (by simp[rowB,BoxLeq]) rfl (by first|rfl|(simp[rowB,BoxLeq];done)) (by simp[rowB,BoxLeq]) (by simp[rowB,BoxLeq])) (fun _ h=>h.elim) (fun ⟨_,h⟩=>h.elim) (fun ⟨_,h⟩=>h.elim) (by simp[rowB,BoxLeq]) ?_
 simp -dsimp[rowB]
 refine sG ?_
 refine WP.ret (aW_ (S':=mkS 12 [(4,.row 0)] [(0,rowB (bs++(V.mk 1 n s l).enc))]) (Wk.go [] 11 0 (by decide) (by simp) (by simp) (by simp[rowB,V.enc])) ?_)
 simp
theorem xW_ (n:Int) (s:ByteArray) (l:List V) {bs:List UInt8} (hb:bs.length+s.size≤1000000000) :
  Fun Tryz.prog 216 [.row 1000,.d (V.mk 2 n s l).d] [(1000,rowB bs)] (.row 0) [(0,rowB (bs++(V.mk 2 n s l).enc))] fun _=>False:=by
 refine ad_ (pn:=an_) ac_ Tryz.func216 rfl fun β0=>?_
 simp only[Tryz.f216]
 rw[V.d,V.cells]
 simp -dsimp[rowB]
 refine sG ?_
 have e1:IntKind.u64.wrap (s.size:Int)=(s.size:Nat):=IntWalk.u64_in _ (by omega)
 have hd:=bd_ (u:=s.size) (by unfold isU;omega)
 rw[e1]
 refine vcStop.call eh_ (pg_ (u:=s.size) (by unfold isU;omega) (bs:=bs++[2]) (by simp;omega)) (rl [(1000,7),(0,12)]) rfl rfl (by simp[rowB,BoxLeq]) (ag_ (by simp[rowB,BoxLeq]) rfl (by first|rfl|(simp[rowB,BoxLeq];done)) (by simp[rowB,BoxLeq]) (by simp[rowB,BoxLeq])) (fun _ h=>h.elim) (fun ⟨_,h⟩=>h.elim) (fun ⟨_,h⟩=>h.elim) (by simp[rowB,BoxLeq]) ?_
 simp -dsimp[rowB]
 repeat refine aI ?_
 refine sG ?_
 refine WP.ret (aW_ (S':=mkS 16 [(4,.row 0)] [(0,rowB (bs++(V.mk 2 n s l).enc))]) (Wk.go [] 15 0 (by decide) (by simp) (by simp) (by simp[rowB,V.enc,vL_];omega)) ?_)
 simp
end Go.Proofs.YtfgcgagcpnbgmaaGreatDoor
namespace Go.Proofs.YtfgcgagcpnbgmaaGreatDoor
open Go.Xe Go.RowKit
@[simp] def wb (c:Nat):Box:=.cells 293 [.d (.v .nilFunc),.d (.v (.func (.func 213) #[] #[])),.d (.v (.func (.func 216) #[] #[])),.fn (.func 217) [] [.ptr c 0]]
@[simp] def wc (b:Nat):Box:=.cells 243 [.ptr b 0]
theorem uu_:Fun Tryz.prog 165 [] [] (.ptr 0 0) [(0,wb 1),(1,wc 0)] fun _=>False:=by
 refine ad_ (pn:=an_) ac_ Tryz.func165 rfl fun β0=>?_
 simp only[Tryz.f165]
 refine sG ?_
 refine WP.ret (aW_ (S':=mkS 18 [(0,.ptr 0 0)] [(0,wb 1),(1,wc 0)]) (Wk.go [] 3 0 (by decide) (by simp) (by simp) (by simp[wb,wc])) ?_)
 simp
theorem nl_ {k n:Int} {s:ByteArray} {l:List V} (h:V.ok (.mk k n s l)=true):k=1∨k=2∨(k=3∧co_ l=true):=by
 rw[V.ok] at h
 split at h
 ·exact .inl ‹_›
 ·split at h
  ·exact .inr (.inl ‹_›)
  ·split at h
   ·simp only[Bool.and_eq_true] at h;exact .inr (.inr ⟨‹_›,h.2⟩)
   ·cases h
theorem cn_ {k n:Int} {s:ByteArray} {l:List V} (h:V.rng (.mk k n s l)=true):isI n∧bm_ l=true:=by
 rw[V.rng] at h
 simp only[Bool.and_eq_true,decide_eq_true_eq] at h
 exact⟨h.1.2,h.2⟩
theorem Fd_:∀ (N:Nat) (n:Int) (s:ByteArray) (l:List V) (bs:List UInt8),(V.mk 3 n s l).sz≤N→co_ l=true→bm_ l=true→bs.length+(V.enc (.mk 3 n s l)).length≤1000000000 →
  Fun Tryz.prog 217 [.row 1000,.d (V.mk 3 n s l).d,.ptr 1001 0] [(1000,rowB bs),(1001,wc 1002),(1002,wb 1001)] (.row 0) [(0,rowB (bs++V.enc (.mk 3 n s l))),(1001,wc 1002),(1002,wb 1001)] fun _=>False:=by
 intro N
 induction N with
 | zero=>intro n s l bs hN;rw[V.sz] at hN;omega
 | succ N ih =>
  intro n s l bs hN hok hrg hlen
  refine ad_ (pn:=an_) ac_ Tryz.func217 rfl fun β0=>?_
  simp only[Tryz.f217]
  rw[V.d,V.cells]
  simp -dsimp[rowB,wb,wc]
  refine vc_ (.tmp 1) 3 rfl fun hl=>?_
  have hm:maxLen=9223372036854775807:=rfl
  rw[hm] at hl
  have e1:IntKind.u64.wrap (l.length:Int)=(l.length:Nat):=IntWalk.u64_in _ (by omega)
  have hd:=bd_ (u:=l.length) (by unfold isU;omega)
  have he:(V.mk 3 n s l).enc=3::(digs l.length++ax_ l):=by simp[V.enc]
  have hlen':bs.length+(1+(digs l.length).length+(ax_ l).length)≤1000000000:=by
   rw[he] at hlen;simp at hlen;omega
  refine sG ?_
  rw[e1]
  refine vcStop.call eh_ (pg_ (u:=l.length) (by unfold isU;omega) (bs:=bs++[3]) (by simp;omega)) (rl [(1000,10),(0,15)]) rfl rfl (by simp[rowB,BoxLeq]) (ag_ (by simp[rowB,BoxLeq]) rfl (by first|rfl|(simp[rowB,BoxLeq];done)) (by simp[rowB,BoxLeq]) (by simp[rowB,BoxLeq])) (fun _ h=>h.elim) (fun ⟨_,h⟩=>h.elim) (fun ⟨_,h⟩=>h.elim) (by simp[rowB,BoxLeq]) ?_
  simp -dsimp[rowB]
  refine sG ?_
  refine ai_ (fun m S=>∃ l1 l2,l=l1++l2∧m=l2.length∧S=mkS 35 [(0,.row 500),(2,.ptr 1001 0),(17,.d (slV l)),(18,.d (.v (.int .i64 l.length))),(19,.d (.v (.int .i64 l1.length)))] [(500,rowB (bs++3::(digs l.length++ax_ l1))),(1001,wc 1002),(1002,wb 1001)]) l.length
   (S0:=mkS 35 [(0,.row 500),(2,.ptr 1001 0),(17,.d (slV l)),(18,.d (.v (.int .i64 l.length))),(19,.d (.v (.int .i64 0)))] [(500,rowB (bs++3::(digs l.length++ax_ []))),(1001,wc 1002),(1002,wb 1001)])
   (Wk.go [] 15 500 (by decide) (by simp) (by simp[slV]) (by simp[rowB,wb,wc,ax_])) ⟨[],l,rfl,rfl,by simp⟩ ?_
  rintro _ _ ⟨l1,l2,hl12,rfl,rfl⟩
  simp -dsimp[slV]
  refine sG ?_
  cases l2 with
  | nil =>
   simp only[List.append_nil] at hl12
   subst hl12
   refine cF (by simp) ?_
   refine WP.exit ?_
   simp -dsimp
   refine sG ?_
   refine WP.ret (aW_ (S':=mkS 35 [(5,.row 0)] [(0,rowB (bs++V.enc (.mk 3 n s l))),(1001,wc 1002),(1002,wb 1001)]) (Wk.go [] 500 0 (by decide) (by simp) (by simp) (by simp[rowB,wb,wc,he])) ?_)
   simp[wb,wc]
  | cons v l2 =>
   have hll:l.length=l1.length+(l2.length+1):=by rw[hl12];simp
   refine cT (by simp;omega) ?_
   refine WP.skip ?_
   simp -dsimp
   refine WP.seq (WP.block ?_)
   have hv:=b7_ l1 v l2
   rw[← hl12] at hv
   have hokv:v.ok=true:=by rw[hl12,bR_,co_] at hok;simp only[Bool.and_eq_true] at hok;exact hok.2.1
   have hrgv:v.rng=true:=by rw[hl12,dB_,bm_] at hrg;simp only[Bool.and_eq_true] at hrg;exact hrg.2.1
   have hlv:bs.length+(1+(digs l.length).length+(ax_ l1).length+v.enc.length)≤1000000000:=by
    have:(ax_ l).length=(ax_ l1).length+(v.enc.length+(ax_ l2).length):=by rw[hl12,ba_,ax_];simp
    omega
   obtain⟨k,n',s',lv⟩:=v
   rw[V.cells] at hv
   have e2:IntKind.i64.wrap ((l1.length:Int)+1)=(l1.length:Int)+1:=IntWalk.i64_in _ (by omega)
   have hI:∀ (X:List UInt8),X=bs++3::(digs l.length++ax_ l1)++V.enc (.mk k n' s' lv)→X=bs++3::(digs l.length++ax_ (l1++[.mk k n' s' lv])):=fun X hX=>by rw[hX,ba_,ax_,ax_];simp
   rcases nl_ hokv with rfl|rfl|⟨rfl,hokl⟩
   ·repeat(first|apply wG|(apply wR;simp -dsimp[hv])|refine aI ?_)
    have hx:(V.enc (.mk 1 n' s' lv)).length=1+(digs (zig n')).length:=by simp[V.enc];omega
    refine vcStop.call hb_ (xX_ (cn_ hrgv).1 s' lv (bs:=bs++3::(digs l.length++ax_ l1)) (by simp;omega)) (rl [(1000,500),(0,32)]) rfl rfl (by simp[V.d,V.cells,BoxLeq]) (ag_ (by simp[V.d,V.cells,BoxLeq]) rfl (by first|rfl|(simp[V.d,V.cells,BoxLeq];done)) (by simp[V.d,V.cells,BoxLeq]) (by simp[V.d,V.cells,BoxLeq])) (fun _ h=>h.elim) (fun ⟨_,h⟩=>h.elim) (fun ⟨_,h⟩=>h.elim) (by simp[V.d,V.cells,BoxLeq]) ?_
    simp -dsimp
    refine sG ?_
    refine loopW.next (mkS 35 [(0,.row 500),(2,.ptr 1001 0),(17,.d (slV l)),(18,.d (.v (.int .i64 l.length))),(19,.d (.v (.int .i64 (l1++[V.mk 1 n' s' lv]).length)))] [(500,rowB (bs++3::(digs l.length++ax_ (l1++[.mk 1 n' s' lv])))),(1001,wc 1002),(1002,wb 1001)])
     (Wk.go [] 32 500 (by decide) (by simp) (by simp[e2]) (by simp[ba_,ax_])) l2.length (by simp) ⟨l1++[.mk 1 n' s' lv],l2,by simp[hl12],rfl,rfl⟩
   ·repeat(first|apply wG|(apply wR;simp -dsimp[hv])|refine aI ?_)
    have hx:(V.enc (.mk 2 n' s' lv)).length=1+((digs s'.size).length+s'.size):=by simp[V.enc];omega
    refine vcStop.call ha_ (xW_ n' s' lv (bs:=bs++3::(digs l.length++ax_ l1)) (by simp;omega)) (rl [(1000,500),(0,32)]) rfl rfl (by simp[V.d,V.cells,BoxLeq]) (ag_ (by simp[V.d,V.cells,BoxLeq]) rfl (by first|rfl|(simp[V.d,V.cells,BoxLeq];done)) (by simp[V.d,V.cells,BoxLeq]) (by simp[V.d,V.cells,BoxLeq])) (fun _ h=>h.elim) (fun ⟨_,h⟩=>h.elim) (fun ⟨_,h⟩=>h.elim) (by simp[V.d,V.cells,BoxLeq]) ?_
    simp -dsimp
    refine sG ?_
    refine loopW.next (mkS 35 [(0,.row 500),(2,.ptr 1001 0),(17,.d (slV l)),(18,.d (.v (.int .i64 l.length))),(19,.d (.v (.int .i64 (l1++[V.mk 2 n' s' lv]).length)))] [(500,rowB (bs++3::(digs l.length++ax_ (l1++[.mk 2 n' s' lv])))),(1001,wc 1002),(1002,wb 1001)])
     (Wk.go [] 32 500 (by decide) (by simp) (by simp[e2]) (by simp[ba_,ax_])) l2.length (by simp) ⟨l1++[.mk 2 n' s' lv],l2,by simp[hl12],rfl,rfl⟩
   ·repeat(first|apply wG|(apply wR;simp -dsimp[hv])|refine aI ?_)
    refine vcStop.call g9_ (ih n' s' lv (bs++3::(digs l.length++ax_ l1)) (i6_ (by rw[← hl12];exact hN)) hokl (cn_ hrgv).2 (by simp;omega)) (rl [(1000,500),(0,32)]) rfl rfl (by simp[V.d,V.cells,BoxLeq]) (ag_ (by simp[V.d,V.cells,BoxLeq]) rfl (by first|rfl|(simp[V.d,V.cells,BoxLeq];done)) (by simp[V.d,V.cells,BoxLeq]) (by simp[V.d,V.cells,BoxLeq])) (fun _ h=>h.elim) (fun ⟨_,h⟩=>h.elim) (fun ⟨_,h⟩=>h.elim) (by simp[V.d,V.cells,BoxLeq]) ?_
    simp -dsimp
    refine sG ?_
    refine loopW.next (mkS 35 [(0,.row 500),(2,.ptr 1001 0),(17,.d (slV l)),(18,.d (.v (.int .i64 l.length))),(19,.d (.v (.int .i64 (l1++[V.mk 3 n' s' lv]).length)))] [(500,rowB (bs++3::(digs l.length++ax_ (l1++[.mk 3 n' s' lv])))),(1001,wc 1002),(1002,wb 1001)])
     (Wk.go [] 32 500 (by decide) (by simp) (by simp[e2]) (by simp[ba_,ax_])) l2.length (by simp) ⟨l1++[.mk 3 n' s' lv],l2,by simp[hl12],rfl,rfl⟩
theorem zy_ {n:Int} (h:isI n) (s:ByteArray) (l:List V):Fun Tryz.prog 213 [.d (.v (.slice none 0 0)),.d (V.mk 1 n s l).d] [] (.row 0) [(0,rowB (V.mk 1 n s l).enc)] fun _=>False:=by
 have:=xX_ h s l (bs:=[]) (by simp)
 exact gN_ (by simpa using this) rfl rfl (by simp) rfl
theorem zx_ (n:Int) (s:ByteArray) (l:List V) (h:s.size≤1000000000):Fun Tryz.prog 216 [.d (.v (.slice none 0 0)),.d (V.mk 2 n s l).d] [] (.row 0) [(0,rowB (V.mk 2 n s l).enc)] fun _=>False:=by
 have:=xW_ n s l (bs:=[]) (by simpa using h)
 exact gN_ (by simpa using this) rfl rfl (by simp) rfl
theorem zw_ (n:Int) (s:ByteArray) (l:List V) (h1:co_ l=true) (h2:bm_ l=true) (h3:(V.enc (.mk 3 n s l)).length≤1000000000) :
  Fun Tryz.prog 217 [.d (.v (.slice none 0 0)),.d (V.mk 3 n s l).d,.ptr 1001 0] [(1001,wc 1002),(1002,wb 1001)] (.row 0) [(0,rowB (V.enc (.mk 3 n s l))),(1001,wc 1002),(1002,wb 1001)] fun _=>False:=by
 have:=Fd_ _ n s l [] (Nat.le_refl _) h1 h2 (by simpa using h3)
 exact gN_ (by simpa using this) rfl (by simp) (by simp) rfl
def V.encB (v:V):List UInt8:=if v.chk=0 then v.enc else []
theorem q9_ {v:V} (h:v.chk=0):v.ok=true:=by
 rw[V.chk] at h
 split at h
 ·assumption
 ·cases h
theorem Cc_ (v:V) (hd:v.dep≤1000000) (hr:v.rng=true) (hl:v.enc.length≤1000000000):Fn0 Tryz.prog 94 [v.d] (.tup [slB v.encB,.v (.int .i64 v.chk)]):=by
 refine ad_ (pn:=an_) ac_ Tryz.func94 rfl fun β0=>?_
 simp only[Tryz.f94]
 obtain⟨k,n,s,l⟩:=v
 rw[V.d,V.cells]
 refine sG ?_
 refine aa_ nR_ (Ca_ (.mk k n s l) hd) rfl rfl (by simp[V.d,V.cells]) ?_
 simp -dsimp
 refine sG ?_
 refine WP.cond (b := !decide (V.chk (.mk k n s l)=0)) (by simp) (fun hb=>?_) (fun hb=>?_)
 ·have hb:¬ V.chk (.mk k n s l)=0:=by simpa using hb
  refine sG ?_
  refine WP.ret (finQ.ret ?_)
  simp -dsimp[V.encB,hb,slB]
 have hb:V.chk (.mk k n s l)=0:=by simpa using hb
 refine WP.skip ?_
 simp -dsimp
 refine sG ?_
 rcases nl_ (q9_ hb) with rfl|rfl|⟨rfl,hokl⟩
 ·refine vcStop.call ek_ (uu_) (rl [(0,10),(1,600)]) rfl rfl (by simp[BoxLeq]) aGq (fun _ h=>h.elim) (fun ⟨_,h⟩=>h.elim) (fun ⟨_,h⟩=>h.elim) (by simp[BoxLeq]) ?_
  simp -dsimp
  repeat refine aI ?_
  refine vcStop.call hb_ (zy_ (cn_ hr).1 s l) (rl [(0,18)]) rfl rfl (by simp[V.d,V.cells,BoxLeq]) (ag_ (by simp[V.d,V.cells,BoxLeq]) rfl (by first|rfl|(simp[V.d,V.cells,BoxLeq];done)) (by simp[V.d,V.cells,BoxLeq]) (by simp[V.d,V.cells,BoxLeq])) (fun _ h=>h.elim) (fun ⟨_,h⟩=>h.elim) (fun ⟨_,h⟩=>h.elim) (by simp[V.d,V.cells,BoxLeq]) ?_
  simp -dsimp
  refine sG ?_
  refine WP.ret (aW_ (Wk.freeze (k:=18) (T:=5) (sz:=1) (ds:=bys _) (by simp;exact⟨rfl,rfl⟩)) ?_)
  simp[V.encB,hb,slB]
 ·refine vcStop.call ek_ (uu_) (rl [(0,10),(1,600)]) rfl rfl (by simp[BoxLeq]) aGq (fun _ h=>h.elim) (fun ⟨_,h⟩=>h.elim) (fun ⟨_,h⟩=>h.elim) (by simp[BoxLeq]) ?_
  simp -dsimp
  repeat refine aI ?_
  have hx:s.size≤1000000000:=by simp[V.enc] at hl;omega
  refine vcStop.call ha_ (zx_ n s l hx) (rl [(0,18)]) rfl rfl (by simp[V.d,V.cells,BoxLeq]) (ag_ (by simp[V.d,V.cells,BoxLeq]) rfl (by first|rfl|(simp[V.d,V.cells,BoxLeq];done)) (by simp[V.d,V.cells,BoxLeq]) (by simp[V.d,V.cells,BoxLeq])) (fun _ h=>h.elim) (fun ⟨_,h⟩=>h.elim) (fun ⟨_,h⟩=>h.elim) (by simp[V.d,V.cells,BoxLeq]) ?_
  simp -dsimp
  refine sG ?_
  refine WP.ret (aW_ (Wk.freeze (k:=18) (T:=5) (sz:=1) (ds:=bys _) (by simp;exact⟨rfl,rfl⟩)) ?_)
  simp[V.encB,hb,slB]
 ·refine vcStop.call ek_ (uu_) (rl [(0,10),(1,600)]) rfl rfl (by simp[BoxLeq]) aGq (fun _ h=>h.elim) (fun ⟨_,h⟩=>h.elim) (fun ⟨_,h⟩=>h.elim) (by simp[BoxLeq]) ?_
  simp -dsimp
  repeat refine aI ?_
  refine vcStop.call g9_ (zw_ n s l hokl (cn_ hr).2 hl) (rl [(1001,600),(1002,10),(0,18)]) rfl rfl (by simp[V.d,V.cells,BoxLeq]) (ag_ (by simp[V.d,V.cells,BoxLeq]) rfl (by first|rfl|(simp[V.d,V.cells,BoxLeq];done)) (by simp[V.d,V.cells,BoxLeq]) (by simp[V.d,V.cells,BoxLeq])) (fun _ h=>h.elim) (fun ⟨_,h⟩=>h.elim) (fun ⟨_,h⟩=>h.elim) (by simp[V.d,V.cells,BoxLeq]) ?_
  simp -dsimp
  refine sG ?_
  refine WP.ret (aW_ (Wk.freeze (k:=18) (T:=5) (sz:=1) (ds:=bys _) (by simp;exact⟨rfl,rfl⟩)) ?_)
  simp[V.encB,hb,slB]
end Go.Proofs.YtfgcgagcpnbgmaaGreatDoor
namespace Go.Proofs.YtfgcgagcpnbgmaaGreatDoor
open Go.Xe Go.RowKit
@[simp] theorem FD_ (l:List UInt8):slB l=.sl 1 (bys l) l.length false:=rfl
theorem Fh_:∀ (N:Nat) (v:V),v.sz≤N→v.rng=true→v.enc.length≤1000000000→Fn0 Tryz.prog 180 [v.d] (slB v.enc):=by
 intro N
 induction N with
 | zero=>rintro⟨k,n,s,l⟩ hN;rw[V.sz] at hN;omega
 | succ N ih =>
  rintro⟨k,n,s,l⟩ hN hrg hlen
  refine ad_ (pn:=an_) ac_ Tryz.func180 rfl fun β0=>?_
  simp only[Tryz.f180]
  rw[V.d,V.cells]
  refine vc_ (.tmp 0) 3 rfl fun hl=>?_
  have hm:maxLen=9223372036854775807:=rfl
  rw[hm] at hl
  have hI:=(cn_ hrg).1
  refine sG ?_
  refine WP.cond (b:=decide (k=1)) (by simp) (fun hb=>?_) (fun hb=>?_)
  ·have hb:=of_decide_eq_true hb
   subst hb
   refine sG ?_
   refine aa_ nr_ (B0_ hI) rfl rfl (by simp) ?_
   simp -dsimp
   repeat refine aI ?_
   refine aa_ cV_ (qR_ _ (lW_ hI)) rfl rfl (by simp) ?_
   have:=bd_ (lW_ hI)
   simp -dsimp
   refine sG ?_
   refine WP.ret (aW_ (Wk.freeze (k:=14) (T:=5) (sz:=1) (ds:=bys (1::digs (zig n))) (by simp;rfl)) ?_)
   simp[V.enc,Nat.add_comm,Nat.add_left_comm]
  have hk1:¬ k=1:=of_decide_eq_false hb
  refine sG ?_
  refine WP.cond (b:=decide (k=2)) (by simp) (fun hb=>?_) (fun hb=>?_)
  ·have hb:=of_decide_eq_true hb
   subst hb
   have hx:s.size≤1000000000:=by simp[V.enc] at hlen;omega
   have e1:IntKind.u64.wrap (s.size:Int)=(s.size:Nat):=IntWalk.u64_in _ (by omega)
   refine sG ?_
   rw[e1]
   refine aa_ cV_ (qR_ s.size (by unfold isU;omega)) rfl rfl (by simp) ?_
   have:=bd_ (u:=s.size) (by unfold isU;omega)
   simp -dsimp
   refine sG ?_
   refine WP.ret (aW_ (Wk.freeze (k:=26) (T:=5) (sz:=1) (ds:=bys (2::(digs s.size++s.data.toList))) (by simp;rfl)) ?_)
   simp[V.enc,Nat.add_comm,Nat.add_left_comm]
  have hk2:¬ k=2:=of_decide_eq_false hb
  have he:(V.mk k n s l).enc=3::(digs l.length++ax_ l):=by simp[V.enc,hk1,hk2]
  have e1:IntKind.u64.wrap (l.length:Int)=(l.length:Nat):=IntWalk.u64_in _ (by omega)
  have hd:=bd_ (u:=l.length) (by unfold isU;omega)
  have hlen':1+(digs l.length).length+(ax_ l).length≤1000000000:=by
   rw[he] at hlen;simp at hlen;omega
  have hrgl:=(cn_ hrg).2
  refine WP.skip ?_
  simp -dsimp
  refine sG ?_
  rw[e1]
  refine aa_ cV_ (qR_ l.length (by unfold isU;omega)) rfl rfl (by simp) ?_
  simp -dsimp
  refine sG ?_
  refine ai_ (fun m S=>∃ l1 l2,l=l1++l2∧m=l2.length∧S=mkS 50 [(1,.ptr 1 0),(3,.row 500),(4,.d (.v (.int .i64 l1.length)))] [(1,bV k n s l),(500,rowB (3::(digs l.length++ax_ l1)))]) l.length
   (S0:=mkS 50 [(1,.ptr 1 0),(3,.row 500),(4,.d (.v (.int .i64 0)))] [(1,bV k n s l),(500,rowB (3::(digs l.length++ax_ [])))]) (Wk.go [] 33 500 (by decide) (by simp) (by simp) (by simp[ax_];omega)) ⟨[],l,rfl,rfl,by simp⟩ ?_
  rintro _ _ ⟨l1,l2,hl12,rfl,rfl⟩
  simp -dsimp
  refine sG ?_
  cases l2 with
  | nil =>
   simp only[List.append_nil] at hl12
   subst hl12
   refine cF (by simp) ?_
   refine WP.exit ?_
   simp -dsimp
   refine sG ?_
   refine WP.ret (aW_ (Wk.freeze (k:=500) (T:=5) (sz:=1) (ds:=bys (3::(digs l.length++ax_ l))) (by simp;rfl)) ?_)
   simp[he]
  | cons v l2 =>
   have hll:l.length=l1.length+(l2.length+1):=by rw[hl12];simp
   refine cT (by simp;omega) ?_
   refine WP.skip ?_
   simp -dsimp
   refine WP.seq (WP.block ?_)
   have hv:=b7_ l1 v l2
   rw[← hl12] at hv
   have hrgv:v.rng=true:=by rw[hl12,dB_,bm_] at hrgl;simp only[Bool.and_eq_true] at hrgl;exact hrgl.2.1
   have hlv:1+(digs l.length).length+(ax_ l1).length+v.enc.length≤1000000000:=by
    have:(ax_ l).length=(ax_ l1).length+(v.enc.length+(ax_ l2).length):=by rw[hl12,ba_,ax_];simp
    omega
   obtain⟨k',n',s',lv⟩:=v
   rw[V.cells] at hv
   have e2:IntKind.i64.wrap ((l1.length:Int)+1)=(l1.length:Int)+1:=IntWalk.i64_in _ (by omega)
   repeat(first|apply wG|(apply wR;simp -dsimp[hv])|refine aI ?_)
   refine aa_ ej_ (ih (.mk k' n' s' lv) (i6_ (by rw[← hl12];exact hN)) hrgv (by omega)) rfl rfl (by simp[V.d,V.cells]) ?_
   simp -dsimp
   refine sG ?_
   refine loopW.next (mkS 50 [(1,.ptr 1 0),(3,.row 500),(4,.d (.v (.int .i64 (l1++[V.mk k' n' s' lv]).length)))] [(1,bV k n s l),(500,rowB (3::(digs l.length++ax_ (l1++[.mk k' n' s' lv]))))])
    (Wk.go [] 48 500 (by decide) (by simp) (by simp[e2]) (by simp[ba_,ax_];omega)) l2.length (by simp) ⟨l1++[.mk k' n' s' lv],l2,by simp[hl12],rfl,rfl⟩
theorem x0_ (v:V) (h1:v.rng=true) (h2:v.enc.length≤1000000000):Fn0 Tryz.prog 180 [v.d] (slB v.enc):=Fh_ v.sz v (Nat.le_refl _) h1 h2
theorem Cb_ (v:V) (hd:v.dep≤1000000) (hr:v.rng=true) (hl:v.enc.length≤1000000000):Fn0 Tryz.prog 107 [v.d] (.tup [slB v.encB,.v (.int .i64 v.chk)]):=by
 refine ad_ (pn:=an_) ac_ Tryz.func107 rfl fun β0=>?_
 simp only[Tryz.f107]
 obtain⟨k,n,s,l⟩:=v
 rw[V.d,V.cells]
 refine sG ?_
 refine aa_ hk_ (x1_ (.mk k n s l) hd) rfl rfl (by simp[V.d,V.cells]) ?_
 simp -dsimp
 refine sG ?_
 refine WP.cond (b := !decide (V.chk (.mk k n s l)=0)) (by simp) (fun hb=>?_) (fun hb=>?_)
 ·have hb:¬ V.chk (.mk k n s l)=0:=by simpa using hb
  refine sG ?_
  refine WP.ret (finQ.ret ?_)
  simp -dsimp[V.encB,hb]
 have hb:V.chk (.mk k n s l)=0:=by simpa using hb
 refine WP.skip ?_
 simp -dsimp
 refine sG ?_
 refine aa_ ej_ (x0_ (.mk k n s l) hr hl) rfl rfl (by simp[V.d,V.cells]) ?_
 simp -dsimp
 refine sG ?_
 refine WP.ret (finQ.ret ?_)
 simp -dsimp[V.encB,hb]
end Go.Proofs.YtfgcgagcpnbgmaaGreatDoor
namespace Go.Proofs.YtfgcgagcpnbgmaaGreatDoor
open Go.Xe Go.RowKit
mutual
def V.same:V→V→Bool
 | .mk k n s l,.mk k' n' s' l'=>decide (k=k')&&decide (n=n')&&decide (s=s')&&vd_ l l'
def vd_:List V→List V→Bool
 | [],[]=>true
 | v::l,v'::l'=>V.same v v'&&vd_ l l'
 | _,_=>false
end
end Go.Proofs.YtfgcgagcpnbgmaaGreatDoor
namespace Go.Proofs.YtfgcgagcpnbgmaaGreatDoor
open Go.Xe Go.RowKit
end Go.Proofs.YtfgcgagcpnbgmaaGreatDoor
namespace Go.Proofs.YtfgcgagcpnbgmaaGreatDoor
open Go.Xe Go.RowKit
theorem B7_ (n:Int):Fn0 Tryz.prog 181 [.v (.int .i64 n)] (V.mk 1 n ⟨#[]⟩ []).d:=by
 refine ad_ (pn:=an_) ac_ Tryz.func181 rfl fun β0=>?_
 simp only[Tryz.f181]
 refine sG ?_
 refine WP.ret (finQ.ret ?_)
 simp -dsimp[V.d,V.cells,aq_]
end Go.Proofs.YtfgcgagcpnbgmaaGreatDoor
