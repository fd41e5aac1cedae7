/-
  Joined texts.
-/
import Derived.Test.YtfgcgagcpnbgmaaGreatDoorWNU
import Derived.Test.YtfgcgagcpnbgmaaGreatDoorW3
set_option maxRecDepth 10000
set_option maxHeartbeats 4000000
set_option linter.unusedVariables false
set_option linter.unusedSimpArgs false
set_option linter.unusedSectionVars false
namespace Go.Proofs.YtfgcgagcpnbgmaaGreatDoor
open Go.Xe Go.RowKit
theorem z1_ {n:Int} (h:isI n):Fn0 Tryz.prog 215 [.v (.int .i64 n)] (.v (.int .u64 (zig n))):=by
 refine ad_ (pn:=ap_) aa_ Tryz.func215 rfl fun β0=>?_
 simp only[Tryz.f215]
 repeat(first|apply wG|(apply wR;simp -dsimp)|refine aI ?_)
 refine WP.ret (finQ.ret ?_)
 simp -dsimp[k8_ h]
theorem wh_ {u:Nat} (h:isU u):Fn0 Tryz.prog 257 [.v (.int .u64 u)] (.v (.int .i64 (zag u))):=by
 refine ad_ (pn:=ap_) aa_ Tryz.func257 rfl fun β0=>?_
 simp only[Tryz.f257]
 repeat(first|apply wG|(apply wR;simp -dsimp)|refine aI ?_)
 refine WP.ret (finQ.ret ?_)
 simp -dsimp[p6_ h]
def s38 (u:Nat) (bs:List UInt8):St :=
 ⟨[.row 500,.d (.v (.int .u64 u))]++List.replicate 18 (.d .any),[(500,.row 5 1 bs.length ((bys bs).map .d))],[]⟩
attribute [local simp] s38
theorem z2_ {u:Nat} (h:isU u) {bs:List UInt8} (hb:bs.length≤1000000000000) :
  Fun Tryz.prog 214 [.row 1000,.d (.v (.int .u64 u))] [(1000,.row 5 1 bs.length ((bys bs).map .d))] (.row 0) [(0,.row 5 1 (bs++digs u).length ((bys (bs++digs u)).map .d))] fun _=>False:=by
 refine ad_ (pn:=ap_) aa_ Tryz.func214 rfl fun β0=>?_
 simp only[Tryz.f214]
 refine WP.seq (WP.region aa_ ?_);simp
 refine WP.seq (WP.block ?_)
 refine ai_ (fun m S=>∃ bs',S=s38 m bs'∧bs'.length+(digs m).length≤bs.length+10∧bs'++digs m=bs++digs u) u (S0:=s38 u bs) (Wk.go [] 1000 500 (by decide) (by simp) (by simp) (by simp)) ⟨bs,rfl,by have:=bM_ h;omega,rfl⟩ ?_
 rintro m _ ⟨bs',rfl,h1,h2⟩
 have hd:=vt_ m
 repeat(first|apply wG|(apply wR;simp -dsimp)|refine aI ?_)
 refine WP.cond (b:=decide (128≤m)) (by simp;omega) (fun hb=>?_) (fun hb=>?_)
 ·refine WP.skip ?_
  simp -dsimp
  repeat(first|apply wG|(apply wR;simp -dsimp)|refine aI ?_)
  refine loopW.next (s38 (m/128) (bs'++[UInt8.ofNat (m%128+128)])) (Wk.go [13] 14 500 (by decide) (by simp) (by simp[shr7_num]) (by simp[digit_num])) (m/128) ?_ ⟨_,rfl,?_,?_⟩
  ·have:=of_decide_eq_true hb;omega
  ·rw[digs] at h1
   rw[if_neg (by have:=of_decide_eq_true hb;omega)] at h1
   simp at h1 ⊢;omega
  ·rw[digs] at h2
   rw[if_neg (by have:=of_decide_eq_true hb;omega)] at h2
   simpa using h2
 ·refine WP.exit ?_
  simp -dsimp
  repeat(first|apply wG|(apply wR;simp -dsimp)|refine aI ?_)
  refine WP.ret (bd_ (S':=⟨List.replicate 4 (.d .any)++[.row 0]++List.replicate 15 (.d .any),[(0,.row 5 1 (bs++digs u).length ((bys (bs++digs u)).map .d))],[]⟩) (Wk.go [18] 19 0 (by decide) (by simp) (by simp) ?_) ?_)
  ·have h3:=of_decide_eq_false hb
   rw[digs,if_pos (by omega)] at h2
   rw[← h2]
   simp[uR_]
  ·simp
end Go.Proofs.YtfgcgagcpnbgmaaGreatDoor
namespace Go.Proofs.YtfgcgagcpnbgmaaGreatDoor
open Go.Xe Go.RowKit
inductive V where
 | mk (k n:Int) (s:ByteArray) (l:List V)
 deriving Inhabited
mutual
def V.cells:V→List D
 | .mk k n s l=>[.v (.int .i64 k),.v (.int .i64 n),.v (.string s),.sl 4 (aB_ l) l.length false]
def aB_:List V→List D
 | []=>[]
 | v::l=>V.cells v++aB_ l
end
def V.d (v:V):D:=.agg v.cells
@[simp] def slV (l:List V):D:=.sl 4 (aB_ l) l.length false
theorem ec_:∀ v:V,v.cells.length=4
 | .mk .. => by simp[V.cells]
theorem cm_:∀ a b:List V,aB_ (a++b)=aB_ a++aB_ b
 | [],b=>by simp[aB_]
 | v::a,b=>by simp[aB_,cm_ a b]
theorem dv_:∀ a:List V,(aB_ a).length=a.length*4
 | []=>rfl
 | v::a=>by simp[aB_,ec_,dv_ a];omega
theorem kQ_ (a b:List V):(aB_ (a++b)).drop (a.length*4)=aB_ b:=by
 rw[cm_,← dv_,List.drop_left]
theorem fP_ (a:List V) (v:V) (b:List V):((aB_ (a++v::b)).drop (a.length*4)).take 4=v.cells:=by
 rw[kQ_,aB_,← ec_ v,List.take_left]
mutual
def V.ok:V→Bool
 | .mk k n s l=>if k=1 then decide (s=⟨#[]⟩)&&decide (l.length=0) else if k=2 then decide (n=0)&&decide (l.length=0)
   else if k=3 then decide (n=0)&&decide (s=⟨#[]⟩)&&cq_ l else false
def cq_:List V→Bool
 | []=>true
 | v::l=>V.ok v&&cq_ l
end
mutual
def V.dep:V→Nat
 | .mk k _ _ l=>if k=3 then bb_ l+1 else 0
def bb_:List V→Nat
 | []=>0
 | v::l=>max (V.dep v) (bb_ l)
end
theorem ct_:∀ a b:List V,cq_ (a++b)=(cq_ a&&cq_ b)
 | [],b=>by simp[cq_]
 | v::a,b=>by simp[cq_,ct_ a b,Bool.and_assoc]
theorem c4_:∀ a b:List V,bb_ (a++b)=max (bb_ a) (bb_ b)
 | [],b=>by simp[bb_]
 | v::a,b=>by simp[bb_,c4_ a b,Nat.max_assoc]
mutual
def V.enc:V→List UInt8
 | .mk k n s l=>if k=1 then 1::digs (zig n) else if k=2 then 2::(digs s.size++s.data.toList) else 3::(digs l.length++aC_ l)
def aC_:List V→List UInt8
 | []=>[]
 | v::l=>V.enc v++aC_ l
end
theorem bl_:∀ a b:List V,aC_ (a++b)=aC_ a++aC_ b
 | [],b=>by simp[aC_]
 | v::a,b=>by simp[aC_,bl_ a b]
mutual
def V.rng:V→Bool
 | .mk k n s l=>decide (-9223372036854775808≤k∧k≤9223372036854775807)&&decide (s.size≤140737488355328)&&decide (-9223372036854775808≤n∧n≤9223372036854775807)&&ba_ l
def ba_:List V→Bool
 | []=>true
 | v::l=>V.rng v&&ba_ l
end
theorem fb_:∀ a b:List V,ba_ (a++b)=(ba_ a&&ba_ b)
 | [],b=>by simp[ba_]
 | v::a,b=>by simp[ba_,fb_ a b,Bool.and_assoc]
mutual
def V.sz:V→Nat
 | .mk _ _ _ l=>l1_ l+1
def l1_:List V→Nat
 | []=>0
 | v::l=>V.sz v+l1_ l
end
theorem f3_:∀ a b:List V,l1_ (a++b)=l1_ a+l1_ b
 | [],b=>by simp[l1_]
 | v::a,b=>by simp[l1_,f3_ a b,Nat.add_assoc]
theorem tH_ {k n:Int} {s:ByteArray} {l1 l2:List V} {v:V} {N:Nat} (h:(V.mk k n s (l1++v::l2)).sz≤N+1):v.sz≤N:=by
 rw[V.sz,f3_,l1_] at h;omega
end Go.Proofs.YtfgcgagcpnbgmaaGreatDoor
namespace Go.Proofs.YtfgcgagcpnbgmaaGreatDoor
open Go.Xe Go.RowKit
theorem Du_:∀ (N:Nat) (v:V),v.sz≤N→v.dep≤1000000→Fn0 Tryz.prog 212 [v.d] (.tup [.v (.int .i64 (if v.ok=true then (v.dep:Int) else 0)),.v (.bool v.ok)]):=by
 intro N
 induction N with
 | zero=>rintro⟨k,n,s,l⟩ hN;rw[V.sz] at hN;omega
 | succ N ih =>
  rintro⟨k,n,s,l⟩ hN hd
  refine ad_ (pn:=ap_) aa_ Tryz.func212 rfl fun β0=>?_
  simp only[Tryz.f212]
  rw[V.d,V.cells]
  rcases (by omega:k<1∨3<k∨k=1∨k=2∨k=3) with hk|hk|rfl|rfl|rfl
  ·have hk0:k.toNat=0:=by omega
   have hk1:¬ k=1:=by omega
   have hk2:¬ k=2:=by omega
   have hk3:¬ k=3:=by omega
   repeat(first|apply wG|(apply wR;simp -dsimp[hk,hk0])|refine aI ?_)
   refine cT (by simp) ?_
   repeat(first|apply wG|(apply wR;simp -dsimp)|refine aI ?_)
   refine WP.ret (finQ.ret ?_)
   simp -dsimp[V.ok,V.dep,hk1,hk2,hk3]
  ·obtain⟨j,rfl⟩:∃ j:Nat,k=((j+4:Nat):Int):=⟨(k-4).toNat,by omega⟩
   have hk1:¬ ((j:Int)+4<1):=by omega
   have hk2:((j:Int)+4).toNat=j+4:=by omega
   have hk3:(3:Int)<(j:Int)+4:=by omega
   have hk4:¬ (j:Int)+4=1:=by omega
   have hk5:¬ (j:Int)+4=2:=by omega
   have hk6:¬ (j:Int)+4=3:=by omega
   repeat(first|apply wG|(apply wR;simp -dsimp[hk1,hk2,hk3])|refine aI ?_)
   refine vcStopG.skip (.d (.v (.bool false))) ?_
   simp -dsimp
   refine cT (by simp) ?_
   repeat(first|apply wG|(apply wR;simp -dsimp)|refine aI ?_)
   refine WP.ret (finQ.ret ?_)
   simp -dsimp[V.ok,V.dep,hk4,hk5,hk6]
  ·repeat(first|apply wG|(apply wR;simp -dsimp)|refine aI ?_)
   refine WP.cond (b := !(V.ok (.mk 1 n s l))) (by simp[V.ok]) (fun hb=>?_) (fun hb=>?_)
   ·simp at hb
    repeat(first|apply wG|(apply wR;simp -dsimp)|refine aI ?_)
    refine WP.ret (finQ.ret ?_)
    simp -dsimp[hb]
   ·simp at hb
    refine WP.skip ?_
    simp -dsimp
    repeat(first|apply wG|(apply wR;simp -dsimp)|refine aI ?_)
    refine cT (by simp) ?_
    repeat(first|apply wG|(apply wR;simp -dsimp)|refine aI ?_)
    refine WP.ret (finQ.ret ?_)
    simp -dsimp[hb,V.dep]
  ·repeat(first|apply wG|(apply wR;simp -dsimp)|refine aI ?_)
   refine WP.cond (b := !(V.ok (.mk 2 n s l))) (by simp[V.ok]) (fun hb=>?_) (fun hb=>?_)
   ·simp at hb
    repeat(first|apply wG|(apply wR;simp -dsimp)|refine aI ?_)
    refine WP.ret (finQ.ret ?_)
    simp -dsimp[hb]
   ·simp at hb
    refine WP.skip ?_
    simp -dsimp
    repeat(first|apply wG|(apply wR;simp -dsimp)|refine aI ?_)
    refine cT (by simp) ?_
    repeat(first|apply wG|(apply wR;simp -dsimp)|refine aI ?_)
    refine WP.ret (finQ.ret ?_)
    simp -dsimp[hb,V.dep]
  ·repeat(first|apply wG|(apply wR;simp -dsimp)|refine aI ?_)
   refine WP.cond (b := !(decide (n=0)&&decide (s=⟨#[]⟩))) (by simp) (fun hb=>?_) (fun hb=>?_)
   ·have hb:V.ok (.mk 3 n s l)=false:=by simp at hb;simp[V.ok];intro h1 h2;rcases hb with h|h;exact absurd h1 h;exact absurd h2 h
    repeat(first|apply wG|(apply wR;simp -dsimp)|refine aI ?_)
    refine WP.ret (finQ.ret ?_)
    simp -dsimp[hb]
   ·simp at hb
    obtain⟨rfl,rfl⟩:=hb
    refine WP.skip ?_
    simp -dsimp
    repeat(first|apply wG|(apply wR;simp -dsimp)|refine aI ?_)
    refine cF (by simp) ?_
    refine WP.skip ?_
    simp -dsimp
    repeat(first|apply wG|(apply wR;simp -dsimp)|refine aI ?_)
    refine WP.len (.tmp 55) rfl fun hl=>?_
    have hd':bb_ l+1≤1000000:=by simpa [V.dep] using hd
    have hm:maxLen=9223372036854775807:=rfl
    rw[hm] at hl
    refine ai_ (fun m S=>∃ l1 l2,l=l1++l2∧m=l2.length∧cq_ l1=true∧S=mkS 74 [(2,.d (.v (.int .i64 (bb_ l1)))),(55,.d (slV l)),(56,.d (.v (.int .i64 l.length))),(57,.d (.v (.int .i64 l1.length)))] []) l.length
     (S0:=mkS 74 [(2,.d (.v (.int .i64 0))),(55,.d (slV l)),(56,.d (.v (.int .i64 l.length))),(57,.d (.v (.int .i64 0)))] []) (ae_ [1,4] (by simp[slV]) (by simp)) ⟨[],l,rfl,rfl,rfl,by simp[bb_]⟩ ?_
    rintro _ _ ⟨l1,l2,rfl,rfl,h1,rfl⟩
    simp only[List.length_append] at hl
    rw[c4_] at hd'
    simp -dsimp[slV]
    repeat(first|apply wG|(apply wR;simp -dsimp)|refine aI ?_)
    cases l2 with
    | nil =>
     refine cF (by simp) ?_
     refine WP.exit ?_
     simp -dsimp
     repeat(first|apply wG|(apply wR;simp -dsimp)|refine aI ?_)
     simp[bb_] at hd'
     have e1:IntKind.i64.wrap ((bb_ l1:Int)+1)=(bb_ l1:Int)+1:=IntWalk.i64_in _ (by omega)
     refine WP.ret (finQ.ret ?_)
     simp -dsimp[V.ok,V.dep,h1,e1]
    | cons v l2 =>
     refine cT (by simp;omega) ?_
     refine WP.skip ?_
     simp -dsimp
     refine WP.seq (WP.block ?_)
     have hv:=fP_ l1 v l2
     obtain⟨k,n,s,lv⟩:=v
     rw[V.cells] at hv
     repeat(first|apply wG|(apply wR;simp -dsimp[hv])|refine aI ?_)
     have hdv:(V.mk k n s lv).dep≤1000000:=by simp only[bb_] at hd';omega
     refine ab_ ga_ (ih (.mk k n s lv) (tH_ hN) hdv) rfl rfl (by simp[V.d,V.cells]) ?_
     simp -dsimp
     repeat(first|apply wG|(apply wR;simp -dsimp)|refine aI ?_)
     refine WP.cond (b := !(V.ok (.mk k n s lv))) (by simp) (fun hb=>?_) (fun hb=>?_)
     ·have hb:V.ok (.mk 3 0 ⟨#[]⟩ (l1 ++ .mk k n s lv::l2))=false:=by
       simp only[Bool.not_eq_true'] at hb
       rw[V.ok,ct_,cq_,hb];simp
      repeat(first|apply wG|(apply wR;simp -dsimp)|refine aI ?_)
      refine WP.ret (finQ.ret ?_)
      simp -dsimp[hb]
     ·simp only[Bool.not_eq_false'] at hb
      refine WP.skip ?_
      simp -dsimp
      repeat(first|apply wG|(apply wR;simp -dsimp)|refine aI ?_)
      have e1:IntKind.i64.wrap ((l1.length:Int)+1)=(l1.length:Int)+1:=IntWalk.i64_in _ (by simp at hl;omega)
      refine loopW.next (mkS 74 [(2,.d (.v (.int .i64 (bb_ (l1++[.mk k n s lv]))))),(55,.d (slV (l1 ++ .mk k n s lv::l2))),(56,.d (.v (.int .i64 ((l1++V.mk k n s lv::l2).length:Nat)))),(57,.d (.v (.int .i64 ((l1++[V.mk k n s lv]).length:Nat))))] [])
       (ae_ [6] (by simp[slV,e1,hb,c4_,bb_,Eg_]) (by simp)) l2.length (by simp) ⟨l1++[.mk k n s lv],l2,by simp,rfl,by simp[ct_,cq_,h1,hb],rfl⟩
theorem z3_ (v:V) (h:v.dep≤1000000):Fn0 Tryz.prog 212 [v.d] (.tup [.v (.int .i64 (if v.ok=true then (v.dep:Int) else 0)),.v (.bool v.ok)]):=Du_ v.sz v (Nat.le_refl _) h
end Go.Proofs.YtfgcgagcpnbgmaaGreatDoor
namespace Go.Proofs.YtfgcgagcpnbgmaaGreatDoor
open Go.Xe Go.RowKit
def V.chk (v:V):Int:=if v.ok=true then (if 16<v.dep then 2 else 0) else 1
theorem z5_ (v:V) (h:v.dep≤1000000):Fn0 Tryz.prog 164 [v.d] (.v (.int .i64 v.chk)):=by
 refine ad_ (pn:=ap_) aa_ Tryz.func164 rfl fun β0=>?_
 simp only[Tryz.f164]
 obtain⟨k,n,s,l⟩:=v
 rw[V.d,V.cells]
 repeat(first|apply wG|(apply wR;simp -dsimp)|refine aI ?_)
 refine ab_ ga_ (z3_ (.mk k n s l) h) rfl rfl (by simp[V.d,V.cells]) ?_
 simp -dsimp
 repeat(first|apply wG|(apply wR;simp -dsimp)|refine aI ?_)
 cases hok:V.ok (.mk k n s l) with
 | false =>
  refine cT (by simp) ?_
  repeat(first|apply wG|(apply wR;simp -dsimp)|refine aI ?_)
  refine WP.ret (finQ.ret ?_)
  simp -dsimp[V.chk,hok]
 | true =>
  refine cF (by simp) ?_
  repeat(first|apply wG|(apply wR;simp -dsimp)|refine aI ?_)
  refine WP.cond (b:=decide (16<V.dep (.mk k n s l))) (by simp;omega) (fun hb=>?_) (fun hb=>?_)
  ·have hb:=of_decide_eq_true hb
   repeat(first|apply wG|(apply wR;simp -dsimp)|refine aI ?_)
   refine WP.ret (finQ.ret ?_)
   simp -dsimp[V.chk,hok,hb]
  ·have hb:=of_decide_eq_false hb
   refine WP.skip ?_
   simp -dsimp
   repeat(first|apply wG|(apply wR;simp -dsimp)|refine aI ?_)
   refine WP.ret (finQ.ret ?_)
   simp -dsimp[V.chk,hok,hb]
@[simp] def bV (k n:Int) (s:ByteArray) (l:List V):Box:=.cells 166 [.d (.v (.int .i64 k)),.d (.v (.int .i64 n)),.d (.v (.string s)),.d (slV l)]
end Go.Proofs.YtfgcgagcpnbgmaaGreatDoor
namespace Go.Proofs.YtfgcgagcpnbgmaaGreatDoor
open Go.Xe Go.RowKit
@[simp] def rowB (bs:List UInt8):Box:=.row 5 1 bs.length ((bys bs).map .d)
@[simp] theorem D5_:aN_ 1=.v (.int .u8 1):=rfl
@[simp] theorem D4_:aN_ 2=.v (.int .u8 2):=rfl
@[simp] theorem D3_:aN_ 3=.v (.int .u8 3):=rfl
@[simp] theorem zC_ (l:List UInt8):l.map aN_=bys l:=rfl
@[simp] theorem wG_ (s:ByteArray):s.data.size=s.size:=rfl
theorem ug_ (s:ByteArray):s.data.toList.length=s.size:=rfl
theorem nL_ {u:Nat} (h:isU u) {bs:List UInt8} (hb:bs.length≤1000000000000) :
  Fun Tryz.prog 214 [.row 1000,.d (.v (.int .u64 u))] [(1000,rowB bs)] (.row 0) [(0,rowB (bs++digs u))] fun _=>False:=z2_ h hb
theorem wk_ {n:Int} (h:isI n) (s:ByteArray) (l:List V) {bs:List UInt8} (hb:bs.length≤1000000000) :
  Fun Tryz.prog 213 [.row 1000,.d (V.mk 1 n s l).d] [(1000,rowB bs)] (.row 0) [(0,rowB (bs++(V.mk 1 n s l).enc))] fun _=>False:=by
 refine ad_ (pn:=ap_) aa_ Tryz.func213 rfl fun β0=>?_
 simp only[Tryz.f213]
 rw[V.d,V.cells]
 simp -dsimp[rowB]
 repeat(first|apply wG|(apply wR;simp -dsimp)|refine aI ?_)
 refine ab_ l7_ (z1_ h) rfl rfl (by simp) ?_
 simp -dsimp
 repeat refine aI ?_
 refine vcStop.call dx_ (nL_ (rh_ h) (bs:=bs++[1]) (by simp;omega)) (rl [(1000,7),(0,11)]) rfl rfl (by simp[rowB,BoxLeq]) (af_ (by simp[rowB,BoxLeq]) rfl (by first|rfl|(simp[rowB,BoxLeq];done)) (by simp[rowB,BoxLeq]) (by simp[rowB,BoxLeq])) (fun _ h=>h.elim) (fun ⟨_,h⟩=>h.elim) (fun ⟨_,h⟩=>h.elim) (by simp[rowB,BoxLeq]) ?_
 simp -dsimp[rowB]
 repeat(first|apply wG|(apply wR;simp -dsimp)|refine aI ?_)
 refine WP.ret (bd_ (S':=mkS 12 [(4,.row 0)] [(0,rowB (bs++(V.mk 1 n s l).enc))]) (Wk.go [] 11 0 (by decide) (by simp) (by simp) (by simp[rowB,V.enc])) ?_)
 simp
theorem wj_ (n:Int) (s:ByteArray) (l:List V) {bs:List UInt8} (hb:bs.length+s.size≤1000000000) :
  Fun Tryz.prog 216 [.row 1000,.d (V.mk 2 n s l).d] [(1000,rowB bs)] (.row 0) [(0,rowB (bs++(V.mk 2 n s l).enc))] fun _=>False:=by
 refine ad_ (pn:=ap_) aa_ Tryz.func216 rfl fun β0=>?_
 simp only[Tryz.f216]
 rw[V.d,V.cells]
 simp -dsimp[rowB]
 repeat(first|apply wG|(apply wR;simp -dsimp)|refine aI ?_)
 have e1:IntKind.u64.wrap (s.size:Int)=(s.size:Nat):=IntWalk.u64_in _ (by omega)
 have hd:=bM_ (u:=s.size) (by unfold isU;omega)
 rw[e1]
 refine vcStop.call dx_ (nL_ (u:=s.size) (by unfold isU;omega) (bs:=bs++[2]) (by simp;omega)) (rl [(1000,7),(0,12)]) rfl rfl (by simp[rowB,BoxLeq]) (af_ (by simp[rowB,BoxLeq]) rfl (by first|rfl|(simp[rowB,BoxLeq];done)) (by simp[rowB,BoxLeq]) (by simp[rowB,BoxLeq])) (fun _ h=>h.elim) (fun ⟨_,h⟩=>h.elim) (fun ⟨_,h⟩=>h.elim) (by simp[rowB,BoxLeq]) ?_
 simp -dsimp[rowB]
 repeat refine aI ?_
 repeat(first|apply wG|(apply wR;simp -dsimp)|refine aI ?_)
 refine WP.ret (bd_ (S':=mkS 16 [(4,.row 0)] [(0,rowB (bs++(V.mk 2 n s l).enc))]) (Wk.go [] 15 0 (by decide) (by simp) (by simp) (by simp[rowB,V.enc,ug_];omega)) ?_)
 simp
end Go.Proofs.YtfgcgagcpnbgmaaGreatDoor
namespace Go.Proofs.YtfgcgagcpnbgmaaGreatDoor
open Go.Xe Go.RowKit
@[simp] def wb (c:Nat):Box:=.cells 293 [.d (.v .nilFunc),.d (.v (.func (.func 213) #[] #[])),.d (.v (.func (.func 216) #[] #[])),.fn (.func 217) [] [.ptr c 0]]
@[simp] def wc (b:Nat):Box:=.cells 243 [.ptr b 0]
theorem s2_:Fun Tryz.prog 165 [] [] (.ptr 0 0) [(0,wb 1),(1,wc 0)] fun _=>False:=by
 refine ad_ (pn:=ap_) aa_ Tryz.func165 rfl fun β0=>?_
 simp only[Tryz.f165]
 repeat(first|apply wG|(apply wR;simp -dsimp)|refine aI ?_)
 refine WP.ret (bd_ (S':=mkS 18 [(0,.ptr 0 0)] [(0,wb 1),(1,wc 0)]) (Wk.go [] 3 0 (by decide) (by simp) (by simp) (by simp[wb,wc])) ?_)
 simp
theorem l2_ {k n:Int} {s:ByteArray} {l:List V} (h:V.ok (.mk k n s l)=true):k=1∨k=2∨(k=3∧cq_ l=true):=by
 rw[V.ok] at h
 split at h
 ·exact .inl ‹_›
 ·split at h
  ·exact .inr (.inl ‹_›)
  ·split at h
   ·simp only[Bool.and_eq_true] at h;exact .inr (.inr ⟨‹_›,h.2⟩)
   ·cases h
theorem c3_ {k n:Int} {s:ByteArray} {l:List V} (h:V.rng (.mk k n s l)=true):isI n∧ba_ l=true:=by
 rw[V.rng] at h
 simp only[Bool.and_eq_true,decide_eq_true_eq] at h
 exact⟨h.1.2,h.2⟩
theorem Dt_:∀ (N:Nat) (n:Int) (s:ByteArray) (l:List V) (bs:List UInt8),(V.mk 3 n s l).sz≤N→cq_ l=true→ba_ l=true→bs.length+(V.enc (.mk 3 n s l)).length≤1000000000 →
  Fun Tryz.prog 217 [.row 1000,.d (V.mk 3 n s l).d,.ptr 1001 0] [(1000,rowB bs),(1001,wc 1002),(1002,wb 1001)] (.row 0) [(0,rowB (bs++V.enc (.mk 3 n s l))),(1001,wc 1002),(1002,wb 1001)] fun _=>False:=by
 intro N
 induction N with
 | zero=>intro n s l bs hN;rw[V.sz] at hN;omega
 | succ N ih =>
  intro n s l bs hN hok hrg hlen
  refine ad_ (pn:=ap_) aa_ Tryz.func217 rfl fun β0=>?_
  simp only[Tryz.f217]
  rw[V.d,V.cells]
  simp -dsimp[rowB,wb,wc]
  refine yj_ (.tmp 1) 3 rfl fun hl=>?_
  have hm:maxLen=9223372036854775807:=rfl
  rw[hm] at hl
  have e1:IntKind.u64.wrap (l.length:Int)=(l.length:Nat):=IntWalk.u64_in _ (by omega)
  have hd:=bM_ (u:=l.length) (by unfold isU;omega)
  have he:(V.mk 3 n s l).enc=3::(digs l.length++aC_ l):=by simp[V.enc]
  have hlen':bs.length+(1+(digs l.length).length+(aC_ l).length)≤1000000000:=by
   rw[he] at hlen;simp at hlen;omega
  repeat(first|apply wG|(apply wR;simp -dsimp)|refine aI ?_)
  rw[e1]
  refine vcStop.call dx_ (nL_ (u:=l.length) (by unfold isU;omega) (bs:=bs++[3]) (by simp;omega)) (rl [(1000,10),(0,15)]) rfl rfl (by simp[rowB,BoxLeq]) (af_ (by simp[rowB,BoxLeq]) rfl (by first|rfl|(simp[rowB,BoxLeq];done)) (by simp[rowB,BoxLeq]) (by simp[rowB,BoxLeq])) (fun _ h=>h.elim) (fun ⟨_,h⟩=>h.elim) (fun ⟨_,h⟩=>h.elim) (by simp[rowB,BoxLeq]) ?_
  simp -dsimp[rowB]
  repeat(first|apply wG|(apply wR;simp -dsimp)|refine aI ?_)
  refine ai_ (fun m S=>∃ l1 l2,l=l1++l2∧m=l2.length∧S=mkS 35 [(0,.row 500),(2,.ptr 1001 0),(17,.d (slV l)),(18,.d (.v (.int .i64 l.length))),(19,.d (.v (.int .i64 l1.length)))] [(500,rowB (bs++3::(digs l.length++aC_ l1))),(1001,wc 1002),(1002,wb 1001)]) l.length
   (S0:=mkS 35 [(0,.row 500),(2,.ptr 1001 0),(17,.d (slV l)),(18,.d (.v (.int .i64 l.length))),(19,.d (.v (.int .i64 0)))] [(500,rowB (bs++3::(digs l.length++aC_ []))),(1001,wc 1002),(1002,wb 1001)])
   (Wk.go [] 15 500 (by decide) (by simp) (by simp[slV]) (by simp[rowB,wb,wc,aC_])) ⟨[],l,rfl,rfl,by simp⟩ ?_
  rintro _ _ ⟨l1,l2,hl12,rfl,rfl⟩
  simp -dsimp[slV]
  repeat(first|apply wG|(apply wR;simp -dsimp)|refine aI ?_)
  cases l2 with
  | nil =>
   simp only[List.append_nil] at hl12
   subst hl12
   refine cF (by simp) ?_
   refine WP.exit ?_
   simp -dsimp
   repeat(first|apply wG|(apply wR;simp -dsimp)|refine aI ?_)
   refine WP.ret (bd_ (S':=mkS 35 [(5,.row 0)] [(0,rowB (bs++V.enc (.mk 3 n s l))),(1001,wc 1002),(1002,wb 1001)]) (Wk.go [] 500 0 (by decide) (by simp) (by simp) (by simp[rowB,wb,wc,he])) ?_)
   simp[wb,wc]
  | cons v l2 =>
   have hll:l.length=l1.length+(l2.length+1):=by rw[hl12];simp
   refine cT (by simp;omega) ?_
   refine WP.skip ?_
   simp -dsimp
   refine WP.seq (WP.block ?_)
   have hv:=fP_ l1 v l2
   rw[← hl12] at hv
   have hokv:v.ok=true:=by rw[hl12,ct_,cq_] at hok;simp only[Bool.and_eq_true] at hok;exact hok.2.1
   have hrgv:v.rng=true:=by rw[hl12,fb_,ba_] at hrg;simp only[Bool.and_eq_true] at hrg;exact hrg.2.1
   have hlv:bs.length+(1+(digs l.length).length+(aC_ l1).length+v.enc.length)≤1000000000:=by
    have:(aC_ l).length=(aC_ l1).length+(v.enc.length+(aC_ l2).length):=by rw[hl12,bl_,aC_];simp
    omega
   obtain⟨k,n',s',lv⟩:=v
   rw[V.cells] at hv
   have e2:IntKind.i64.wrap ((l1.length:Int)+1)=(l1.length:Int)+1:=IntWalk.i64_in _ (by omega)
   have hI:∀ (X:List UInt8),X=bs++3::(digs l.length++aC_ l1)++V.enc (.mk k n' s' lv)→X=bs++3::(digs l.length++aC_ (l1++[.mk k n' s' lv])):=fun X hX=>by rw[hX,bl_,aC_,aC_];simp
   rcases l2_ hokv with rfl|rfl|⟨rfl,hokl⟩
   ·repeat(first|apply wG|(apply wR;simp -dsimp[hv])|refine aI ?_)
    have hx:(V.enc (.mk 1 n' s' lv)).length=1+(digs (zig n')).length:=by simp[V.enc];omega
    refine vcStop.call f9_ (wk_ (c3_ hrgv).1 s' lv (bs:=bs++3::(digs l.length++aC_ l1)) (by simp;omega)) (rl [(1000,500),(0,32)]) rfl rfl (by simp[V.d,V.cells,BoxLeq]) (af_ (by simp[V.d,V.cells,BoxLeq]) rfl (by first|rfl|(simp[V.d,V.cells,BoxLeq];done)) (by simp[V.d,V.cells,BoxLeq]) (by simp[V.d,V.cells,BoxLeq])) (fun _ h=>h.elim) (fun ⟨_,h⟩=>h.elim) (fun ⟨_,h⟩=>h.elim) (by simp[V.d,V.cells,BoxLeq]) ?_
    simp -dsimp
    repeat(first|apply wG|(apply wR;simp -dsimp)|refine aI ?_)
    refine loopW.next (mkS 35 [(0,.row 500),(2,.ptr 1001 0),(17,.d (slV l)),(18,.d (.v (.int .i64 l.length))),(19,.d (.v (.int .i64 (l1++[V.mk 1 n' s' lv]).length)))] [(500,rowB (bs++3::(digs l.length++aC_ (l1++[.mk 1 n' s' lv])))),(1001,wc 1002),(1002,wb 1001)])
     (Wk.go [] 32 500 (by decide) (by simp) (by simp[e2]) (by simp[bl_,aC_])) l2.length (by simp) ⟨l1++[.mk 1 n' s' lv],l2,by simp[hl12],rfl,rfl⟩
   ·repeat(first|apply wG|(apply wR;simp -dsimp[hv])|refine aI ?_)
    have hx:(V.enc (.mk 2 n' s' lv)).length=1+((digs s'.size).length+s'.size):=by simp[V.enc];omega
    refine vcStop.call f8_ (wj_ n' s' lv (bs:=bs++3::(digs l.length++aC_ l1)) (by simp;omega)) (rl [(1000,500),(0,32)]) rfl rfl (by simp[V.d,V.cells,BoxLeq]) (af_ (by simp[V.d,V.cells,BoxLeq]) rfl (by first|rfl|(simp[V.d,V.cells,BoxLeq];done)) (by simp[V.d,V.cells,BoxLeq]) (by simp[V.d,V.cells,BoxLeq])) (fun _ h=>h.elim) (fun ⟨_,h⟩=>h.elim) (fun ⟨_,h⟩=>h.elim) (by simp[V.d,V.cells,BoxLeq]) ?_
    simp -dsimp
    repeat(first|apply wG|(apply wR;simp -dsimp)|refine aI ?_)
    refine loopW.next (mkS 35 [(0,.row 500),(2,.ptr 1001 0),(17,.d (slV l)),(18,.d (.v (.int .i64 l.length))),(19,.d (.v (.int .i64 (l1++[V.mk 2 n' s' lv]).length)))] [(500,rowB (bs++3::(digs l.length++aC_ (l1++[.mk 2 n' s' lv])))),(1001,wc 1002),(1002,wb 1001)])
     (Wk.go [] 32 500 (by decide) (by simp) (by simp[e2]) (by simp[bl_,aC_])) l2.length (by simp) ⟨l1++[.mk 2 n' s' lv],l2,by simp[hl12],rfl,rfl⟩
   ·repeat(first|apply wG|(apply wR;simp -dsimp[hv])|refine aI ?_)
    refine vcStop.call f7_ (ih n' s' lv (bs++3::(digs l.length++aC_ l1)) (tH_ (by rw[← hl12];exact hN)) hokl (c3_ hrgv).2 (by simp;omega)) (rl [(1000,500),(0,32)]) rfl rfl (by simp[V.d,V.cells,BoxLeq]) (af_ (by simp[V.d,V.cells,BoxLeq]) rfl (by first|rfl|(simp[V.d,V.cells,BoxLeq];done)) (by simp[V.d,V.cells,BoxLeq]) (by simp[V.d,V.cells,BoxLeq])) (fun _ h=>h.elim) (fun ⟨_,h⟩=>h.elim) (fun ⟨_,h⟩=>h.elim) (by simp[V.d,V.cells,BoxLeq]) ?_
    simp -dsimp
    repeat(first|apply wG|(apply wR;simp -dsimp)|refine aI ?_)
    refine loopW.next (mkS 35 [(0,.row 500),(2,.ptr 1001 0),(17,.d (slV l)),(18,.d (.v (.int .i64 l.length))),(19,.d (.v (.int .i64 (l1++[V.mk 3 n' s' lv]).length)))] [(500,rowB (bs++3::(digs l.length++aC_ (l1++[.mk 3 n' s' lv])))),(1001,wc 1002),(1002,wb 1001)])
     (Wk.go [] 32 500 (by decide) (by simp) (by simp[e2]) (by simp[bl_,aC_])) l2.length (by simp) ⟨l1++[.mk 3 n' s' lv],l2,by simp[hl12],rfl,rfl⟩
theorem xH_ {n:Int} (h:isI n) (s:ByteArray) (l:List V):Fun Tryz.prog 213 [.d (.v (.slice none 0 0)),.d (V.mk 1 n s l).d] [] (.row 0) [(0,rowB (V.mk 1 n s l).enc)] fun _=>False:=by
 have:=wk_ h s l (bs:=[]) (by simp)
 exact dY_ (by simpa using this) rfl rfl (by simp) rfl
theorem xG_ (n:Int) (s:ByteArray) (l:List V) (h:s.size≤1000000000):Fun Tryz.prog 216 [.d (.v (.slice none 0 0)),.d (V.mk 2 n s l).d] [] (.row 0) [(0,rowB (V.mk 2 n s l).enc)] fun _=>False:=by
 have:=wj_ n s l (bs:=[]) (by simpa using h)
 exact dY_ (by simpa using this) rfl rfl (by simp) rfl
theorem xF_ (n:Int) (s:ByteArray) (l:List V) (h1:cq_ l=true) (h2:ba_ l=true) (h3:(V.enc (.mk 3 n s l)).length≤1000000000) :
  Fun Tryz.prog 217 [.d (.v (.slice none 0 0)),.d (V.mk 3 n s l).d,.ptr 1001 0] [(1001,wc 1002),(1002,wb 1001)] (.row 0) [(0,rowB (V.enc (.mk 3 n s l))),(1001,wc 1002),(1002,wb 1001)] fun _=>False:=by
 have:=Dt_ _ n s l [] (Nat.le_refl _) h1 h2 (by simpa using h3)
 exact dY_ (by simpa using this) rfl (by simp) (by simp) rfl
def V.encB (v:V):List UInt8:=if v.chk=0 then v.enc else []
theorem hi_ {v:V} (h:v.chk=0):v.ok=true:=by
 rw[V.chk] at h
 split at h
 ·assumption
 ·cases h
theorem z6_ (v:V) (hd:v.dep≤1000000) (hr:v.rng=true) (hl:v.enc.length≤1000000000):Fn0 Tryz.prog 94 [v.d] (.tup [slB v.encB,.v (.int .i64 v.chk)]):=by
 refine ad_ (pn:=ap_) aa_ Tryz.func94 rfl fun β0=>?_
 simp only[Tryz.f94]
 obtain⟨k,n,s,l⟩:=v
 rw[V.d,V.cells]
 repeat(first|apply wG|(apply wR;simp -dsimp)|refine aI ?_)
 refine ab_ mn_ (z5_ (.mk k n s l) hd) rfl rfl (by simp[V.d,V.cells]) ?_
 simp -dsimp
 repeat(first|apply wG|(apply wR;simp -dsimp)|refine aI ?_)
 refine WP.cond (b := !decide (V.chk (.mk k n s l)=0)) (by simp) (fun hb=>?_) (fun hb=>?_)
 ·have hb:¬ V.chk (.mk k n s l)=0:=by simpa using hb
  repeat(first|apply wG|(apply wR;simp -dsimp)|refine aI ?_)
  refine WP.ret (finQ.ret ?_)
  simp -dsimp[V.encB,hb,slB]
 have hb:V.chk (.mk k n s l)=0:=by simpa using hb
 refine WP.skip ?_
 simp -dsimp
 repeat(first|apply wG|(apply wR;simp -dsimp)|refine aI ?_)
 rcases l2_ (hi_ hb) with rfl|rfl|⟨rfl,hokl⟩
 ·refine vcStop.call dz_ (s2_) (rl [(0,10),(1,600)]) rfl rfl (by simp[BoxLeq]) (af_ (by simp[BoxLeq]) rfl (by first|rfl|(simp[BoxLeq];done)) (by simp[BoxLeq]) (by simp[BoxLeq])) (fun _ h=>h.elim) (fun ⟨_,h⟩=>h.elim) (fun ⟨_,h⟩=>h.elim) (by simp[BoxLeq]) ?_
  simp -dsimp
  repeat refine aI ?_
  refine vcStop.call f9_ (xH_ (c3_ hr).1 s l) (rl [(0,18)]) rfl rfl (by simp[V.d,V.cells,BoxLeq]) (af_ (by simp[V.d,V.cells,BoxLeq]) rfl (by first|rfl|(simp[V.d,V.cells,BoxLeq];done)) (by simp[V.d,V.cells,BoxLeq]) (by simp[V.d,V.cells,BoxLeq])) (fun _ h=>h.elim) (fun ⟨_,h⟩=>h.elim) (fun ⟨_,h⟩=>h.elim) (by simp[V.d,V.cells,BoxLeq]) ?_
  simp -dsimp
  repeat(first|apply wG|(apply wR;simp -dsimp)|refine aI ?_)
  refine WP.ret (bd_ (Wk.freeze (k:=18) (T:=5) (sz:=1) (ds:=bys _) (by simp;exact⟨rfl,rfl⟩)) ?_)
  simp[V.encB,hb,slB]
 ·refine vcStop.call dz_ (s2_) (rl [(0,10),(1,600)]) rfl rfl (by simp[BoxLeq]) (af_ (by simp[BoxLeq]) rfl (by first|rfl|(simp[BoxLeq];done)) (by simp[BoxLeq]) (by simp[BoxLeq])) (fun _ h=>h.elim) (fun ⟨_,h⟩=>h.elim) (fun ⟨_,h⟩=>h.elim) (by simp[BoxLeq]) ?_
  simp -dsimp
  repeat refine aI ?_
  have hx:s.size≤1000000000:=by simp[V.enc] at hl;omega
  refine vcStop.call f8_ (xG_ n s l hx) (rl [(0,18)]) rfl rfl (by simp[V.d,V.cells,BoxLeq]) (af_ (by simp[V.d,V.cells,BoxLeq]) rfl (by first|rfl|(simp[V.d,V.cells,BoxLeq];done)) (by simp[V.d,V.cells,BoxLeq]) (by simp[V.d,V.cells,BoxLeq])) (fun _ h=>h.elim) (fun ⟨_,h⟩=>h.elim) (fun ⟨_,h⟩=>h.elim) (by simp[V.d,V.cells,BoxLeq]) ?_
  simp -dsimp
  repeat(first|apply wG|(apply wR;simp -dsimp)|refine aI ?_)
  refine WP.ret (bd_ (Wk.freeze (k:=18) (T:=5) (sz:=1) (ds:=bys _) (by simp;exact⟨rfl,rfl⟩)) ?_)
  simp[V.encB,hb,slB]
 ·refine vcStop.call dz_ (s2_) (rl [(0,10),(1,600)]) rfl rfl (by simp[BoxLeq]) (af_ (by simp[BoxLeq]) rfl (by first|rfl|(simp[BoxLeq];done)) (by simp[BoxLeq]) (by simp[BoxLeq])) (fun _ h=>h.elim) (fun ⟨_,h⟩=>h.elim) (fun ⟨_,h⟩=>h.elim) (by simp[BoxLeq]) ?_
  simp -dsimp
  repeat refine aI ?_
  refine vcStop.call f7_ (xF_ n s l hokl (c3_ hr).2 hl) (rl [(1001,600),(1002,10),(0,18)]) rfl rfl (by simp[V.d,V.cells,BoxLeq]) (af_ (by simp[V.d,V.cells,BoxLeq]) rfl (by first|rfl|(simp[V.d,V.cells,BoxLeq];done)) (by simp[V.d,V.cells,BoxLeq]) (by simp[V.d,V.cells,BoxLeq])) (fun _ h=>h.elim) (fun ⟨_,h⟩=>h.elim) (fun ⟨_,h⟩=>h.elim) (by simp[V.d,V.cells,BoxLeq]) ?_
  simp -dsimp
  repeat(first|apply wG|(apply wR;simp -dsimp)|refine aI ?_)
  refine WP.ret (bd_ (Wk.freeze (k:=18) (T:=5) (sz:=1) (ds:=bys _) (by simp;exact⟨rfl,rfl⟩)) ?_)
  simp[V.encB,hb,slB]
end Go.Proofs.YtfgcgagcpnbgmaaGreatDoor
namespace Go.Proofs.YtfgcgagcpnbgmaaGreatDoor
open Go.Xe Go.RowKit
@[simp] theorem DW_ (l:List UInt8):slB l=.sl 1 (bys l) l.length false:=rfl
end Go.Proofs.YtfgcgagcpnbgmaaGreatDoor
namespace Go.Proofs.YtfgcgagcpnbgmaaGreatDoor
open Go.Xe Go.RowKit
mutual
def V.same:V→V→Bool
 | .mk k n s l,.mk k' n' s' l'=>decide (k=k')&&decide (n=n')&&decide (s=s')&&tI_ l l'
def tI_:List V→List V→Bool
 | [],[]=>true
 | v::l,v'::l'=>V.same v v'&&tI_ l l'
 | _,_=>false
end
end Go.Proofs.YtfgcgagcpnbgmaaGreatDoor
namespace Go.Proofs.YtfgcgagcpnbgmaaGreatDoor
open Go.Xe Go.RowKit
end Go.Proofs.YtfgcgagcpnbgmaaGreatDoor
namespace Go.Proofs.YtfgcgagcpnbgmaaGreatDoor
open Go.Xe Go.RowKit
end Go.Proofs.YtfgcgagcpnbgmaaGreatDoor
