/-
  Joined texts.
-/
import Derived.Test.YtkcgffilldklcaaGreatDoorHNU
import Derived.Test.YtkcgffilldklcaaGreatDoorH3
set_option linter.all false
set_option maxRecDepth 10000
set_option maxHeartbeats 4000000
namespace Go.Proofs.YtkcgffilldklcaaGreatDoor
open Go.Xe Go.RowKit
theorem Cc_ {n:Int} (h:isI n):Fn0 Tryz.prog 163 [.v (.int .i64 n)] (.v (.int .u64 (zig n))):=by
 refine ad_ (pn:=an_) ac_ Tryz.func163 rfl fun β0=>?_
 simp only[Tryz.f163]
 refine sG ?_
 refine WP.ret (finQ.ret ?_)
 simp -dsimp[l4_ h]
theorem xU_ {u:Nat} (h:isU u):Fn0 Tryz.prog 207 [.v (.int .u64 u)] (.v (.int .i64 (zag u))):=by
 refine ad_ (pn:=an_) ac_ Tryz.func207 rfl fun β0=>?_
 simp only[Tryz.f207]
 refine sG ?_
 refine WP.ret (finQ.ret ?_)
 simp -dsimp[rk_ h]
theorem Cb_ {n:Int} (h:isI n):Fn0 Tryz.prog 191 [.v (.int .i64 n)] (.v (.int .u64 (zig n))):=by
 refine ad_ (pn:=an_) ac_ Tryz.func191 rfl fun β0=>?_
 simp only[Tryz.f191]
 refine sG ?_
 refine WP.cond (b:=decide (0≤n)) (by simp) (fun hb=>?_) (fun hb=>?_)
 ·refine sG ?_
  refine WP.ret (finQ.ret ?_)
  simp -dsimp
  rw[rf_ h (by simpa using hb)]
  exact .refl _
 ·refine WP.skip ?_
  refine sG ?_
  refine WP.ret (finQ.ret ?_)
  simp -dsimp
  rw[ye_ h (by simpa using hb)]
  exact .refl _
def s38 (u:Nat) (bs:List UInt8):St :=
 ⟨[.row 500,.d (.v (.int .u64 u))]++List.replicate 18 (.d .any),[(500,.row 5 1 bs.length ((bys bs).map .d))],[]⟩
attribute [local simp] s38
theorem Cd_ {u:Nat} (h:isU u) {bs:List UInt8} (hb:bs.length≤1000000000000) :
  Fun Tryz.prog 162 [.row 1000,.d (.v (.int .u64 u))] [(1000,.row 5 1 bs.length ((bys bs).map .d))] (.row 0) [(0,.row 5 1 (bs++digs u).length ((bys (bs++digs u)).map .d))] fun _=>False:=by
 refine ad_ (pn:=an_) ac_ Tryz.func162 rfl fun β0=>?_
 simp only[Tryz.f162]
 refine WP.seq (WP.region ac_ ?_);simp
 refine WP.seq (WP.block ?_)
 refine ai_ (fun m S=>∃ bs',S=s38 m bs'∧bs'.length+(digs m).length≤bs.length+10∧bs'++digs m=bs++digs u) u (S0:=s38 u bs) (Wk.go [] 1000 500 (by decide) (by simp) (by simp) (by simp)) ⟨bs,rfl,by have:=bf_ h;omega,rfl⟩ ?_
 rintro m _ ⟨bs',rfl,h1,h2⟩
 have hd:=wN_ m
 refine sG ?_
 refine WP.cond (b:=decide (128≤m)) (by simp;omega) (fun hb=>?_) (fun hb=>?_)
 ·refine WP.skip ?_
  refine sH ?_
  refine loopW.next (s38 (m/128) (bs'++[UInt8.ofNat (m%128+128)])) (Wk.go [13] 14 500 (by decide) (by simp) (by simp[shr7_num]) (by simp[digit_num])) (m/128) ?_ ⟨_,rfl,?_,?_⟩
  ·have:=of_decide_eq_true hb;omega
  ·rw[digs] at h1
   rw[if_neg (by have:=of_decide_eq_true hb;omega)] at h1
   simp at h1 ⊢;omega
  ·rw[digs] at h2
   rw[if_neg (by have:=of_decide_eq_true hb;omega)] at h2
   simpa using h2
 ·refine WP.exit ?_
  refine sH ?_
  refine WP.ret (a1_ (S':=⟨List.replicate 4 (.d .any)++[.row 0]++List.replicate 15 (.d .any),[(0,.row 5 1 (bs++digs u).length ((bys (bs++digs u)).map .d))],[]⟩) (Wk.go [18] 19 0 (by decide) (by simp) (by simp) ?_) ?_)
  ·have h3:=of_decide_eq_false hb
   rw[digs,if_pos (by omega)] at h2
   rw[← h2]
   simp[qA_]
  ·simp
theorem qO_:∀ (u:Nat),isU u→Fn0 Tryz.prog 190 [.v (.int .u64 u)] (slB (digs u))
 | u,h=>by
  refine ad_ (pn:=an_) ac_ Tryz.func190 rfl fun β0=>?_
  simp only[Tryz.f190]
  refine sG ?_
  refine WP.cond (b:=decide (u<128)) (by simp;omega) (fun hb=>?_) (fun hb=>?_)
  ·refine sG ?_
   refine WP.ret (a1_ (Wk.freeze (k:=7) (T:=5) (sz:=1) (n:=1) (ds:=[.v (.int .u8 (IntKind.u8.wrap u))]) (by simp)) ?_)
   rw[digs,if_pos (of_decide_eq_true hb)]
   simp[qA_,slB]
  ·refine WP.skip ?_
   have hu:128≤u:=by simpa using hb
   simp -dsimp
   refine WP.seq (WP.region ac_ ?_)
   simp -dsimp
   repeat refine aI ?_
   refine aa_ cU_ (qO_ (u/128) (by unfold isU at h ⊢;omega)) rfl rfl ?_ ?_
   ·have:IntKind.u64.wrap ((u:Int)/128)=(u:Int)/128:=IntWalk.u64_in _ (by unfold isU at h;omega)
    simp[this]
   have hl:=bf_ (u:=u/128) (by unfold isU at h ⊢;omega)
   simp[slB]
   repeat refine aI ?_
   refine sG ?_
   refine WP.ret (a1_ (Wk.freeze (k:=16) (T:=5) (sz:=1) (ds:=.v (.int .u8 (IntKind.u8.wrap (IntKind.u64.wrap ((u:Int).tmod 128+128))))::bys (digs (u/128))) (by simp;rfl)) ?_)
   rw[digs,if_neg (by omega)]
   simp[sb_,slB,Nat.add_comm]
termination_by u=>u
decreasing_by omega
end Go.Proofs.YtkcgffilldklcaaGreatDoor
namespace Go.Proofs.YtkcgffilldklcaaGreatDoor
open Go.Xe Go.RowKit
inductive V where
 | mk (k n:Int) (s:ByteArray) (l:List V)
 deriving Inhabited
mutual
def V.cells:V→List D
 | .mk k n s l=>[.v (.int .i64 k),.v (.int .i64 n),.v (.string s),.sl 4 (ar_ l) l.length false]
def ar_:List V→List D
 | []=>[]
 | v::l=>V.cells v++ar_ l
end
def V.d (v:V):D:=.agg v.cells
@[simp] def slV (l:List V):D:=.sl 4 (ar_ l) l.length false
theorem eS_:∀ v:V,v.cells.length=4
 | .mk .. => by simp[V.cells]
theorem bA_:∀ a b:List V,ar_ (a++b)=ar_ a++ar_ b
 | [],b=>by simp[ar_]
 | v::a,b=>by simp[ar_,bA_ a b]
theorem ee_:∀ a:List V,(ar_ a).length=a.length*4
 | []=>rfl
 | v::a=>by simp[ar_,eS_,ee_ a];omega
theorem lM_ (a b:List V):(ar_ (a++b)).drop (a.length*4)=ar_ b:=by
 rw[bA_,← ee_,List.drop_left]
theorem b9_ (a:List V) (v:V) (b:List V):((ar_ (a++v::b)).drop (a.length*4)).take 4=v.cells:=by
 rw[lM_,ar_,← eS_ v,List.take_left]
mutual
def V.ok:V→Bool
 | .mk k n s l=>if k=1 then decide (s=⟨#[]⟩)&&decide (l.length=0) else if k=2 then decide (n=0)&&decide (l.length=0)
   else if k=3 then decide (n=0)&&decide (s=⟨#[]⟩)&&cq_ l else false
def cq_:List V→Bool
 | []=>true
 | v::l=>V.ok v&&cq_ l
end
mutual
def V.dep:V→Nat
 | .mk k _ _ l=>if k=3 then a2_ l+1 else 0
def a2_:List V→Nat
 | []=>0
 | v::l=>max (V.dep v) (a2_ l)
end
theorem bR_:∀ a b:List V,cq_ (a++b)=(cq_ a&&cq_ b)
 | [],b=>by simp[cq_]
 | v::a,b=>by simp[cq_,bR_ a b,Bool.and_assoc]
theorem b1_:∀ a b:List V,a2_ (a++b)=max (a2_ a) (a2_ b)
 | [],b=>by simp[a2_]
 | v::a,b=>by simp[a2_,b1_ a b,Nat.max_assoc]
mutual
def V.enc:V→List UInt8
 | .mk k n s l=>if k=1 then 1::digs (zig n) else if k=2 then 2::(digs s.size++s.data.toList) else 3::(digs l.length++az_ l)
def az_:List V→List UInt8
 | []=>[]
 | v::l=>V.enc v++az_ l
end
theorem bc_:∀ a b:List V,az_ (a++b)=az_ a++az_ b
 | [],b=>by simp[az_]
 | v::a,b=>by simp[az_,bc_ a b]
mutual
def V.rng:V→Bool
 | .mk k n s l=>decide (-9223372036854775808≤k∧k≤9223372036854775807)&&decide (s.size≤140737488355328)&&decide (-9223372036854775808≤n∧n≤9223372036854775807)&&bk_ l
def bk_:List V→Bool
 | []=>true
 | v::l=>V.rng v&&bk_ l
end
theorem dF_:∀ a b:List V,bk_ (a++b)=(bk_ a&&bk_ b)
 | [],b=>by simp[bk_]
 | v::a,b=>by simp[bk_,dF_ a b,Bool.and_assoc]
mutual
def V.sz:V→Nat
 | .mk _ _ _ l=>nm_ l+1
def nm_:List V→Nat
 | []=>0
 | v::l=>V.sz v+nm_ l
end
theorem g6_:∀ a b:List V,nm_ (a++b)=nm_ a+nm_ b
 | [],b=>by simp[nm_]
 | v::a,b=>by simp[nm_,g6_ a b,Nat.add_assoc]
theorem i8_ {k n:Int} {s:ByteArray} {l1 l2:List V} {v:V} {N:Nat} (h:(V.mk k n s (l1++v::l2)).sz≤N+1):v.sz≤N:=by
 rw[V.sz,g6_,nm_] at h;omega
end Go.Proofs.YtkcgffilldklcaaGreatDoor
namespace Go.Proofs.YtkcgffilldklcaaGreatDoor
open Go.Xe Go.RowKit
theorem Fl_:∀ (N:Nat) (v:V),v.sz≤N→v.dep≤1000000→Fn0 Tryz.prog 160 [v.d] (.tup [.v (.int .i64 (if v.ok=true then (v.dep:Int) else 0)),.v (.bool v.ok)]):=by
 intro N
 induction N with
 | zero=>rintro⟨k,n,s,l⟩ hN;rw[V.sz] at hN;omega
 | succ N ih =>
  rintro⟨k,n,s,l⟩ hN hd
  refine ad_ (pn:=an_) ac_ Tryz.func160 rfl fun β0=>?_
  simp only[Tryz.f160]
  rw[V.d,V.cells]
  rcases (by omega:k<1∨3<k∨k=1∨k=2∨k=3) with hk|hk|rfl|rfl|rfl
  ·have hk0:k.toNat=0:=by omega
   have hk1:¬ k=1:=by omega
   have hk2:¬ k=2:=by omega
   have hk3:¬ k=3:=by omega
   repeat(first|apply wG|(apply wR;simp -dsimp[hk,hk0])|refine aI ?_)
   refine cU ?_
   refine sG ?_
   refine WP.ret (finQ.ret ?_)
   simp -dsimp[V.ok,V.dep,hk1,hk2,hk3]
  ·obtain⟨j,rfl⟩:∃ j:Nat,k=((j+4:Nat):Int):=⟨(k-4).toNat,by omega⟩
   have hk1:¬ ((j:Int)+4<1):=by omega
   have hk2:((j:Int)+4).toNat=j+4:=by omega
   have hk3:(3:Int)<(j:Int)+4:=by omega
   have hk4:¬ (j:Int)+4=1:=by omega
   have hk5:¬ (j:Int)+4=2:=by omega
   have hk6:¬ (j:Int)+4=3:=by omega
   repeat(first|apply wG|(apply wR;simp -dsimp[hk1,hk2,hk3])|refine aI ?_)
   refine vcStopG.skip (.d (.v (.bool false))) ?_
   simp -dsimp
   refine cU ?_
   refine sG ?_
   refine WP.ret (finQ.ret ?_)
   simp -dsimp[V.ok,V.dep,hk4,hk5,hk6]
  ·refine sG ?_
   refine WP.cond (b := !(V.ok (.mk 1 n s l))) (by simp[V.ok]) (fun hb=>?_) (fun hb=>?_)
   ·simp at hb
    refine sG ?_
    refine WP.ret (finQ.ret ?_)
    simp -dsimp[hb]
   ·simp at hb
    refine WP.skip ?_
    refine sH ?_
    refine cU ?_
    refine sG ?_
    refine WP.ret (finQ.ret ?_)
    simp -dsimp[hb,V.dep]
  ·refine sG ?_
   refine WP.cond (b := !(V.ok (.mk 2 n s l))) (by simp[V.ok]) (fun hb=>?_) (fun hb=>?_)
   ·simp at hb
    refine sG ?_
    refine WP.ret (finQ.ret ?_)
    simp -dsimp[hb]
   ·simp at hb
    refine WP.skip ?_
    refine sH ?_
    refine cU ?_
    refine sG ?_
    refine WP.ret (finQ.ret ?_)
    simp -dsimp[hb,V.dep]
  ·refine sG ?_
   refine WP.cond (b := !(decide (n=0)&&decide (s=⟨#[]⟩))) (by simp) (fun hb=>?_) (fun hb=>?_)
   ·have hb:V.ok (.mk 3 n s l)=false:=by simp at hb;simp[V.ok];intro h1 h2;rcases hb with h|h;exact absurd h1 h;exact absurd h2 h
    refine sG ?_
    refine WP.ret (finQ.ret ?_)
    simp -dsimp[hb]
   ·simp at hb
    obtain⟨rfl,rfl⟩:=hb
    refine WP.skip ?_
    refine sH ?_
    refine cE ?_
    refine WP.skip ?_
    refine sH ?_
    refine WP.len (.tmp 55) rfl fun hl=>?_
    have hd':a2_ l+1≤1000000:=by simpa [V.dep] using hd
    have hm:maxLen=9223372036854775807:=rfl
    rw[hm] at hl
    refine ai_ (fun m S=>∃ l1 l2,l=l1++l2∧m=l2.length∧cq_ l1=true∧S=mkS 74 [(2,.d (.v (.int .i64 (a2_ l1)))),(55,.d (slV l)),(56,.d (.v (.int .i64 l.length))),(57,.d (.v (.int .i64 l1.length)))] []) l.length
     (S0:=mkS 74 [(2,.d (.v (.int .i64 0))),(55,.d (slV l)),(56,.d (.v (.int .i64 l.length))),(57,.d (.v (.int .i64 0)))] []) (ae_ [1,4] (by simp[slV]) (by simp)) ⟨[],l,rfl,rfl,rfl,by simp[a2_]⟩ ?_
    rintro _ _ ⟨l1,l2,rfl,rfl,h1,rfl⟩
    simp only[List.length_append] at hl
    rw[b1_] at hd'
    simp -dsimp[slV]
    refine sG ?_
    cases l2 with
    | nil =>
     refine cE ?_
     refine WP.exit ?_
     refine sH ?_
     simp[a2_] at hd'
     have e1:IntKind.i64.wrap ((a2_ l1:Int)+1)=(a2_ l1:Int)+1:=IntWalk.i64_in _ (by omega)
     refine WP.ret (finQ.ret ?_)
     simp -dsimp[V.ok,V.dep,h1,e1]
    | cons v l2 =>
     refine cT (by simp;omega) ?_
     refine WP.skip ?_
     simp -dsimp
     refine WP.seq (WP.block ?_)
     have hv:=b9_ l1 v l2
     obtain⟨k,n,s,lv⟩:=v
     rw[V.cells] at hv
     repeat(first|apply wG|(apply wR;simp -dsimp[hv])|refine aI ?_)
     have hdv:(V.mk k n s lv).dep≤1000000:=by simp only[a2_] at hd';omega
     refine aa_ hl_ (ih (.mk k n s lv) (i8_ hN) hdv) rfl rfl (by simp[V.d,V.cells]) ?_
     refine sH ?_
     refine WP.cond (b := !(V.ok (.mk k n s lv))) (by simp) (fun hb=>?_) (fun hb=>?_)
     ·have hb:V.ok (.mk 3 0 ⟨#[]⟩ (l1 ++ .mk k n s lv::l2))=false:=by
       simp only[Bool.not_eq_true'] at hb
       rw[V.ok,bR_,cq_,hb];simp
      refine sG ?_
      refine WP.ret (finQ.ret ?_)
      simp -dsimp[hb]
     ·simp only[Bool.not_eq_false'] at hb
      refine WP.skip ?_
      refine sH ?_
      have e1:IntKind.i64.wrap ((l1.length:Int)+1)=(l1.length:Int)+1:=IntWalk.i64_in _ (by simp at hl;omega)
      refine loopW.next (mkS 74 [(2,.d (.v (.int .i64 (a2_ (l1++[.mk k n s lv]))))),(55,.d (slV (l1 ++ .mk k n s lv::l2))),(56,.d (.v (.int .i64 ((l1++V.mk k n s lv::l2).length:Nat)))),(57,.d (.v (.int .i64 ((l1++[V.mk k n s lv]).length:Nat))))] [])
       (ae_ [6] (by simp[slV,e1,hb,b1_,a2_,FR_]) (by simp)) l2.length (by simp) ⟨l1++[.mk k n s lv],l2,by simp,rfl,by simp[bR_,cq_,h1,hb],rfl⟩
theorem Ch_ (v:V) (h:v.dep≤1000000):Fn0 Tryz.prog 160 [v.d] (.tup [.v (.int .i64 (if v.ok=true then (v.dep:Int) else 0)),.v (.bool v.ok)]):=Fl_ v.sz v (Nat.le_refl _) h
end Go.Proofs.YtkcgffilldklcaaGreatDoor
namespace Go.Proofs.YtkcgffilldklcaaGreatDoor
open Go.Xe Go.RowKit
def V.chk (v:V):Int:=if v.ok=true then (if 16<v.dep then 2 else 0) else 1
theorem Cl_ (v:V) (h:v.dep≤1000000):Fn0 Tryz.prog 102 [v.d] (.v (.int .i64 v.chk)):=by
 refine ad_ (pn:=an_) ac_ Tryz.func102 rfl fun β0=>?_
 simp only[Tryz.f102]
 obtain⟨k,n,s,l⟩:=v
 rw[V.d,V.cells]
 refine sG ?_
 refine aa_ hl_ (Ch_ (.mk k n s l) h) rfl rfl (by simp[V.d,V.cells]) ?_
 refine sH ?_
 cases hok:V.ok (.mk k n s l) with
 | false =>
  refine cU ?_
  refine sG ?_
  refine WP.ret (finQ.ret ?_)
  simp -dsimp[V.chk,hok]
 | true =>
  refine cE ?_
  refine sG ?_
  refine WP.cond (b:=decide (16<V.dep (.mk k n s l))) (by simp;omega) (fun hb=>?_) (fun hb=>?_)
  ·have hb:=of_decide_eq_true hb
   refine sG ?_
   refine WP.ret (finQ.ret ?_)
   simp -dsimp[V.chk,hok,hb]
  ·have hb:=of_decide_eq_false hb
   refine WP.skip ?_
   refine sH ?_
   refine WP.ret (finQ.ret ?_)
   simp -dsimp[V.chk,hok,hb]
@[simp] def bV (k n:Int) (s:ByteArray) (l:List V):Box:=.cells 121 [.d (.v (.int .i64 k)),.d (.v (.int .i64 n)),.d (.v (.string s)),.d (slV l)]
theorem Fk_:∀ (N:Nat) (v:V),v.sz≤N→Fn0 Tryz.prog 188 [v.d] (.v (.bool v.ok)):=by
 intro N
 induction N with
 | zero=>rintro⟨k,n,s,l⟩ hN;rw[V.sz] at hN;omega
 | succ N ih =>
  rintro⟨k,n,s,l⟩ hN
  refine ad_ (pn:=an_) ac_ Tryz.func188 rfl fun β0=>?_
  simp only[Tryz.f188]
  rw[V.d,V.cells]
  refine sG ?_
  refine WP.cond (b:=decide (k=1)) (by simp) (fun hb=>?_) (fun hb=>?_)
  ·have hb:=of_decide_eq_true hb
   subst hb
   refine sG ?_
   refine WP.ret (finQ.ret ?_)
   simp -dsimp[V.ok]
  have hk1:¬ k=1:=of_decide_eq_false hb
  refine sG ?_
  refine WP.cond (b:=decide (k=2)) (by simp) (fun hb=>?_) (fun hb=>?_)
  ·have hb:=of_decide_eq_true hb
   subst hb
   refine sG ?_
   refine WP.ret (finQ.ret ?_)
   simp -dsimp[V.ok]
  have hk2:¬ k=2:=of_decide_eq_false hb
  refine sG ?_
  refine WP.cond (b:=decide (k=3)) (by simp) (fun hb=>?_) (fun hb=>?_)
  ·have hb:=of_decide_eq_true hb
   subst hb
   refine sG ?_
   refine ai_ (fun m S=>∃ l1 l2,l=l1++l2∧m=l2.length∧cq_ l1=true∧S=mkS 52 [(1,.ptr 1 0),(3,.d (.v (.int .i64 l1.length)))] [(1,bV 3 n s l)]) l.length
    (S0:=mkS 52 [(1,.ptr 1 0),(3,.d (.v (.int .i64 0)))] [(1,bV 3 n s l)]) (ae_ [] (by simp) (by simp[bV,slV])) ⟨[],l,rfl,rfl,rfl,by simp⟩ ?_
   rintro _ _ ⟨l1,l2,rfl,rfl,h1,rfl⟩
   simp -dsimp[bV,slV]
   refine sG ?_
   refine WP.len (.tmp 32) rfl fun hl=>?_
   have hm:maxLen=9223372036854775807:=rfl
   rw[hm] at hl
   cases l2 with
   | nil =>
    refine cE ?_
    refine WP.exit ?_
    refine sH ?_
    refine WP.ret (finQ.ret ?_)
    simp -dsimp[V.ok,h1]
   | cons v l2 =>
    refine cT (by simp;omega) ?_
    refine WP.skip ?_
    simp -dsimp
    refine WP.seq (WP.block ?_)
    have hv:=b9_ l1 v l2
    obtain⟨k,n,s,lv⟩:=v
    rw[V.cells] at hv
    repeat(first|apply wG|(apply wR;simp -dsimp[hv])|refine aI ?_)
    refine aa_ hd_ (ih (.mk k n s lv) (i8_ hN)) rfl rfl (by simp[V.d,V.cells]) ?_
    refine sH ?_
    refine WP.cond (b := !(V.ok (.mk k n s lv))) (by simp) (fun hb=>?_) (fun hb=>?_)
    ·simp only[Bool.not_eq_true'] at hb
     refine sG ?_
     refine WP.ret (finQ.ret ?_)
     simp -dsimp
     rw[V.ok,bR_,cq_,hb]
     simp
    ·simp only[Bool.not_eq_false'] at hb
     refine WP.skip ?_
     refine sH ?_
     have e1:IntKind.i64.wrap ((l1.length:Int)+1)=(l1.length:Int)+1:=IntWalk.i64_in _ (by simp at hl;omega)
     refine loopW.next (mkS 52 [(1,.ptr 1 0),(3,.d (.v (.int .i64 (l1++[V.mk k n s lv]).length)))] [(1,bV 3 _ _ (l1 ++ .mk k n s lv::l2))])
      (ae_ [] (by simp[e1]) (by simp[bV,slV])) l2.length (by simp) ⟨l1++[.mk k n s lv],l2,by simp,rfl,by simp[bR_,cq_,h1,hb],rfl⟩
  ·have hk3:¬ k=3:=of_decide_eq_false hb
   refine WP.skip ?_
   refine sH ?_
   refine WP.ret (finQ.ret ?_)
   simp -dsimp[V.ok,hk1,hk2,hk3]
theorem Cg_ (v:V):Fn0 Tryz.prog 188 [v.d] (.v (.bool v.ok)):=Fk_ v.sz v (Nat.le_refl _)
theorem Fj_:∀ (N:Nat) (v:V),v.sz≤N→v.dep≤1000000→Fn0 Tryz.prog 189 [v.d] (.v (.int .i64 v.dep)):=by
 intro N
 induction N with
 | zero=>rintro⟨k,n,s,l⟩ hN;rw[V.sz] at hN;omega
 | succ N ih =>
  rintro⟨k,n,s,l⟩ hN hd
  refine ad_ (pn:=an_) ac_ Tryz.func189 rfl fun β0=>?_
  simp only[Tryz.f189]
  rw[V.d,V.cells]
  refine sG ?_
  refine WP.cond (b := !decide (k=3)) (by simp) (fun hb=>?_) (fun hb=>?_)
  ·have hb:¬ k=3:=by simpa using hb
   refine sG ?_
   refine WP.ret (finQ.ret ?_)
   simp -dsimp[V.dep,hb]
  have hb:k=3:=by simpa using hb
  subst hb
  refine WP.skip ?_
  refine sH ?_
  have hd':a2_ l+1≤1000000:=by simpa [V.dep] using hd
  refine ai_ (fun m S=>∃ l1 l2,l=l1++l2∧m=l2.length∧S=mkS 25 [(1,.ptr 1 0),(3,.d (.v (.int .i64 (a2_ l1)))),(4,.d (.v (.int .i64 l1.length)))] [(1,bV 3 n s l)]) l.length
   (S0:=mkS 25 [(1,.ptr 1 0),(3,.d (.v (.int .i64 0))),(4,.d (.v (.int .i64 0)))] [(1,bV 3 n s l)]) (ae_ [] (by simp) (by simp[bV,slV])) ⟨[],l,rfl,rfl,by simp[a2_]⟩ ?_
  rintro _ _ ⟨l1,l2,rfl,rfl,rfl⟩
  simp -dsimp[bV,slV]
  refine sG ?_
  refine WP.len (.tmp 10) rfl fun hl=>?_
  have hm:maxLen=9223372036854775807:=rfl
  rw[hm] at hl
  rw[b1_] at hd'
  cases l2 with
  | nil =>
   refine cE ?_
   refine WP.exit ?_
   refine sH ?_
   simp[a2_] at hd'
   have e1:IntKind.i64.wrap ((a2_ l1:Int)+1)=(a2_ l1:Int)+1:=IntWalk.i64_in _ (by omega)
   refine WP.ret (finQ.ret ?_)
   simp -dsimp[V.dep,e1]
  | cons v l2 =>
   refine cT (by simp;omega) ?_
   refine WP.skip ?_
   simp -dsimp
   refine WP.seq (WP.block ?_)
   have hv:=b9_ l1 v l2
   obtain⟨k,n,s,lv⟩:=v
   rw[V.cells] at hv
   repeat(first|apply wG|(apply wR;simp -dsimp[hv])|refine aI ?_)
   have hdv:(V.mk k n s lv).dep≤1000000:=by simp only[a2_] at hd';omega
   refine aa_ hc_ (ih (.mk k n s lv) (i8_ hN) hdv) rfl rfl (by simp[V.d,V.cells]) ?_
   refine sH ?_
   have e1:IntKind.i64.wrap ((l1.length:Int)+1)=(l1.length:Int)+1:=IntWalk.i64_in _ (by simp at hl;omega)
   refine loopW.next (mkS 25 [(1,.ptr 1 0),(3,.d (.v (.int .i64 (a2_ (l1++[V.mk k n s lv]))))),(4,.d (.v (.int .i64 (l1++[V.mk k n s lv]).length)))] [(1,bV 3 _ _ (l1 ++ .mk k n s lv::l2))])
    (ae_ [] (by simp[e1,b1_,a2_,FR_]) (by simp[bV,slV])) l2.length (by simp) ⟨l1++[.mk k n s lv],l2,by simp,rfl,rfl⟩
theorem Cf_ (v:V) (h:v.dep≤1000000):Fn0 Tryz.prog 189 [v.d] (.v (.int .i64 v.dep)):=Fj_ v.sz v (Nat.le_refl _) h
theorem x1_ (v:V) (h:v.dep≤1000000):Fn0 Tryz.prog 131 [v.d] (.v (.int .i64 v.chk)):=by
 refine ad_ (pn:=an_) ac_ Tryz.func131 rfl fun β0=>?_
 simp only[Tryz.f131]
 obtain⟨k,n,s,l⟩:=v
 rw[V.d,V.cells]
 refine sG ?_
 refine aa_ hd_ (Cg_ (.mk k n s l)) rfl rfl (by simp[V.d,V.cells]) ?_
 refine sH ?_
 cases hok:V.ok (.mk k n s l) with
 | false =>
  refine cU ?_
  refine sG ?_
  refine WP.ret (finQ.ret ?_)
  simp -dsimp[V.chk,hok]
 | true =>
  refine cE ?_
  refine WP.skip ?_
  refine sH ?_
  refine aa_ hc_ (Cf_ (.mk k n s l) h) rfl rfl (by simp[V.d,V.cells]) ?_
  refine sH ?_
  refine WP.cond (b:=decide (16<V.dep (.mk k n s l))) (by simp;omega) (fun hb=>?_) (fun hb=>?_)
  ·have hb:=of_decide_eq_true hb
   refine sG ?_
   refine WP.ret (finQ.ret ?_)
   simp -dsimp[V.chk,hok,hb]
  ·have hb:=of_decide_eq_false hb
   refine WP.skip ?_
   refine sH ?_
   refine WP.ret (finQ.ret ?_)
   simp -dsimp[V.chk,hok,hb]
end Go.Proofs.YtkcgffilldklcaaGreatDoor
namespace Go.Proofs.YtkcgffilldklcaaGreatDoor
open Go.Xe Go.RowKit
@[simp] def rowB (bs:List UInt8):Box:=.row 5 1 bs.length ((bys bs).map .d)
@[simp] theorem FV_:a6_ 1=.v (.int .u8 1):=rfl
@[simp] theorem FU_:a6_ 2=.v (.int .u8 2):=rfl
@[simp] theorem FT_:a6_ 3=.v (.int .u8 3):=rfl
@[simp] theorem BJ_ (l:List UInt8):l.map a6_=bys l:=rfl
@[simp] theorem yq_ (s:ByteArray):s.data.size=s.size:=rfl
theorem vE_ (s:ByteArray):s.data.toList.length=s.size:=rfl
theorem o6_ {u:Nat} (h:isU u) {bs:List UInt8} (hb:bs.length≤1000000000000) :
  Fun Tryz.prog 162 [.row 1000,.d (.v (.int .u64 u))] [(1000,rowB bs)] (.row 0) [(0,rowB (bs++digs u))] fun _=>False:=Cd_ h hb
theorem xX_ {n:Int} (h:isI n) (s:ByteArray) (l:List V) {bs:List UInt8} (hb:bs.length≤1000000000) :
  Fun Tryz.prog 161 [.row 1000,.d (V.mk 1 n s l).d] [(1000,rowB bs)] (.row 0) [(0,rowB (bs++(V.mk 1 n s l).enc))] fun _=>False:=by
 refine ad_ (pn:=an_) ac_ Tryz.func161 rfl fun β0=>?_
 simp only[Tryz.f161]
 rw[V.d,V.cells]
 simp -dsimp[rowB]
 refine sG ?_
 refine aa_ nH_ (Cc_ h) rfl rfl (by simp) ?_
 simp -dsimp
 repeat refine aI ?_
 refine vcStop.call el_ (o6_ (lX_ h) (bs:=bs++[1]) (by simp;omega)) (rl [(1000,7),(0,11)]) rfl rfl (by simp[rowB,BoxLeq]) (ag_ (by simp[rowB,BoxLeq]) rfl (by first|rfl|(simp[rowB,BoxLeq];done)) (by simp[rowB,BoxLeq]) (by simp[rowB,BoxLeq])) (fun _ h=>h.elim) (fun ⟨_,h⟩=>h.elim) (fun ⟨_,h⟩=>h.elim) (by simp[rowB,BoxLeq]) ?_
 simp -dsimp[rowB]
 refine sG ?_
 refine WP.ret (a1_ (S':=mkS 12 [(4,.row 0)] [(0,rowB (bs++(V.mk 1 n s l).enc))]) (Wk.go [] 11 0 (by decide) (by simp) (by simp) (by simp[rowB,V.enc])) ?_)
 simp
theorem xW_ (n:Int) (s:ByteArray) (l:List V) {bs:List UInt8} (hb:bs.length+s.size≤1000000000) :
  Fun Tryz.prog 164 [.row 1000,.d (V.mk 2 n s l).d] [(1000,rowB bs)] (.row 0) [(0,rowB (bs++(V.mk 2 n s l).enc))] fun _=>False:=by
 refine ad_ (pn:=an_) ac_ Tryz.func164 rfl fun β0=>?_
 simp only[Tryz.f164]
 rw[V.d,V.cells]
 simp -dsimp[rowB]
 refine sG ?_
 have e1:IntKind.u64.wrap (s.size:Int)=(s.size:Nat):=IntWalk.u64_in _ (by omega)
 have hd:=bf_ (u:=s.size) (by unfold isU;omega)
 rw[e1]
 refine vcStop.call el_ (o6_ (u:=s.size) (by unfold isU;omega) (bs:=bs++[2]) (by simp;omega)) (rl [(1000,7),(0,12)]) rfl rfl (by simp[rowB,BoxLeq]) (ag_ (by simp[rowB,BoxLeq]) rfl (by first|rfl|(simp[rowB,BoxLeq];done)) (by simp[rowB,BoxLeq]) (by simp[rowB,BoxLeq])) (fun _ h=>h.elim) (fun ⟨_,h⟩=>h.elim) (fun ⟨_,h⟩=>h.elim) (by simp[rowB,BoxLeq]) ?_
 simp -dsimp[rowB]
 repeat refine aI ?_
 refine sG ?_
 refine WP.ret (a1_ (S':=mkS 16 [(4,.row 0)] [(0,rowB (bs++(V.mk 2 n s l).enc))]) (Wk.go [] 15 0 (by decide) (by simp) (by simp) (by simp[rowB,V.enc,vE_];omega)) ?_)
 simp
end Go.Proofs.YtkcgffilldklcaaGreatDoor
namespace Go.Proofs.YtkcgffilldklcaaGreatDoor
open Go.Xe Go.RowKit
@[simp] def wb (c:Nat):Box:=.cells 235 [.d (.v .nilFunc),.d (.v (.func (.func 161) #[] #[])),.d (.v (.func (.func 164) #[] #[])),.fn (.func 165) [] [.ptr c 0]]
@[simp] def wc (b:Nat):Box:=.cells 181 [.ptr b 0]
theorem uu_:Fun Tryz.prog 103 [] [] (.ptr 0 0) [(0,wb 1),(1,wc 0)] fun _=>False:=by
 refine ad_ (pn:=an_) ac_ Tryz.func103 rfl fun β0=>?_
 simp only[Tryz.f103]
 refine sG ?_
 refine WP.ret (a1_ (S':=mkS 18 [(0,.ptr 0 0)] [(0,wb 1),(1,wc 0)]) (Wk.go [] 3 0 (by decide) (by simp) (by simp) (by simp[wb,wc])) ?_)
 simp
theorem nn_ {k n:Int} {s:ByteArray} {l:List V} (h:V.ok (.mk k n s l)=true):k=1∨k=2∨(k=3∧cq_ l=true):=by
 rw[V.ok] at h
 split at h
 ·exact .inl ‹_›
 ·split at h
  ·exact .inr (.inl ‹_›)
  ·split at h
   ·simp only[Bool.and_eq_true] at h;exact .inr (.inr ⟨‹_›,h.2⟩)
   ·cases h
theorem cp_ {k n:Int} {s:ByteArray} {l:List V} (h:V.rng (.mk k n s l)=true):isI n∧bk_ l=true:=by
 rw[V.rng] at h
 simp only[Bool.and_eq_true,decide_eq_true_eq] at h
 exact⟨h.1.2,h.2⟩
theorem Fi_:∀ (N:Nat) (n:Int) (s:ByteArray) (l:List V) (bs:List UInt8),(V.mk 3 n s l).sz≤N→cq_ l=true→bk_ l=true→bs.length+(V.enc (.mk 3 n s l)).length≤1000000000 →
  Fun Tryz.prog 165 [.row 1000,.d (V.mk 3 n s l).d,.ptr 1001 0] [(1000,rowB bs),(1001,wc 1002),(1002,wb 1001)] (.row 0) [(0,rowB (bs++V.enc (.mk 3 n s l))),(1001,wc 1002),(1002,wb 1001)] fun _=>False:=by
 intro N
 induction N with
 | zero=>intro n s l bs hN;rw[V.sz] at hN;omega
 | succ N ih =>
  intro n s l bs hN hok hrg hlen
  refine ad_ (pn:=an_) ac_ Tryz.func165 rfl fun β0=>?_
  simp only[Tryz.f165]
  rw[V.d,V.cells]
  simp -dsimp[rowB,wb,wc]
  refine u8_ (.tmp 1) 3 rfl fun hl=>?_
  have hm:maxLen=9223372036854775807:=rfl
  rw[hm] at hl
  have e1:IntKind.u64.wrap (l.length:Int)=(l.length:Nat):=IntWalk.u64_in _ (by omega)
  have hd:=bf_ (u:=l.length) (by unfold isU;omega)
  have he:(V.mk 3 n s l).enc=3::(digs l.length++az_ l):=by simp[V.enc]
  have hlen':bs.length+(1+(digs l.length).length+(az_ l).length)≤1000000000:=by
   rw[he] at hlen;simp at hlen;omega
  refine sG ?_
  rw[e1]
  refine vcStop.call el_ (o6_ (u:=l.length) (by unfold isU;omega) (bs:=bs++[3]) (by simp;omega)) (rl [(1000,10),(0,15)]) rfl rfl (by simp[rowB,BoxLeq]) (ag_ (by simp[rowB,BoxLeq]) rfl (by first|rfl|(simp[rowB,BoxLeq];done)) (by simp[rowB,BoxLeq]) (by simp[rowB,BoxLeq])) (fun _ h=>h.elim) (fun ⟨_,h⟩=>h.elim) (fun ⟨_,h⟩=>h.elim) (by simp[rowB,BoxLeq]) ?_
  simp -dsimp[rowB]
  refine sG ?_
  refine ai_ (fun m S=>∃ l1 l2,l=l1++l2∧m=l2.length∧S=mkS 35 [(0,.row 500),(2,.ptr 1001 0),(17,.d (slV l)),(18,.d (.v (.int .i64 l.length))),(19,.d (.v (.int .i64 l1.length)))] [(500,rowB (bs++3::(digs l.length++az_ l1))),(1001,wc 1002),(1002,wb 1001)]) l.length
   (S0:=mkS 35 [(0,.row 500),(2,.ptr 1001 0),(17,.d (slV l)),(18,.d (.v (.int .i64 l.length))),(19,.d (.v (.int .i64 0)))] [(500,rowB (bs++3::(digs l.length++az_ []))),(1001,wc 1002),(1002,wb 1001)])
   (Wk.go [] 15 500 (by decide) (by simp) (by simp[slV]) (by simp[rowB,wb,wc,az_])) ⟨[],l,rfl,rfl,by simp⟩ ?_
  rintro _ _ ⟨l1,l2,hl12,rfl,rfl⟩
  simp -dsimp[slV]
  refine sG ?_
  cases l2 with
  | nil =>
   simp only[List.append_nil] at hl12
   subst hl12
   refine cE ?_
   refine WP.exit ?_
   refine sH ?_
   refine WP.ret (a1_ (S':=mkS 35 [(5,.row 0)] [(0,rowB (bs++V.enc (.mk 3 n s l))),(1001,wc 1002),(1002,wb 1001)]) (Wk.go [] 500 0 (by decide) (by simp) (by simp) (by simp[rowB,wb,wc,he])) ?_)
   simp[wb,wc]
  | cons v l2 =>
   have hll:l.length=l1.length+(l2.length+1):=by rw[hl12];simp
   refine cT (by simp;omega) ?_
   refine WP.skip ?_
   simp -dsimp
   refine WP.seq (WP.block ?_)
   have hv:=b9_ l1 v l2
   rw[← hl12] at hv
   have hokv:v.ok=true:=by rw[hl12,bR_,cq_] at hok;simp only[Bool.and_eq_true] at hok;exact hok.2.1
   have hrgv:v.rng=true:=by rw[hl12,dF_,bk_] at hrg;simp only[Bool.and_eq_true] at hrg;exact hrg.2.1
   have hlv:bs.length+(1+(digs l.length).length+(az_ l1).length+v.enc.length)≤1000000000:=by
    have:(az_ l).length=(az_ l1).length+(v.enc.length+(az_ l2).length):=by rw[hl12,bc_,az_];simp
    omega
   obtain⟨k,n',s',lv⟩:=v
   rw[V.cells] at hv
   have e2:IntKind.i64.wrap ((l1.length:Int)+1)=(l1.length:Int)+1:=IntWalk.i64_in _ (by omega)
   have hI:∀ (X:List UInt8),X=bs++3::(digs l.length++az_ l1)++V.enc (.mk k n' s' lv)→X=bs++3::(digs l.length++az_ (l1++[.mk k n' s' lv])):=fun X hX=>by rw[hX,bc_,az_,az_];simp
   rcases nn_ hokv with rfl|rfl|⟨rfl,hokl⟩
   ·repeat(first|apply wG|(apply wR;simp -dsimp[hv])|refine aI ?_)
    have hx:(V.enc (.mk 1 n' s' lv)).length=1+(digs (zig n')).length:=by simp[V.enc];omega
    refine vcStop.call hk_ (xX_ (cp_ hrgv).1 s' lv (bs:=bs++3::(digs l.length++az_ l1)) (by simp;omega)) (rl [(1000,500),(0,32)]) rfl rfl (by simp[V.d,V.cells,BoxLeq]) (ag_ (by simp[V.d,V.cells,BoxLeq]) rfl (by first|rfl|(simp[V.d,V.cells,BoxLeq];done)) (by simp[V.d,V.cells,BoxLeq]) (by simp[V.d,V.cells,BoxLeq])) (fun _ h=>h.elim) (fun ⟨_,h⟩=>h.elim) (fun ⟨_,h⟩=>h.elim) (by simp[V.d,V.cells,BoxLeq]) ?_
    refine sH ?_
    refine loopW.next (mkS 35 [(0,.row 500),(2,.ptr 1001 0),(17,.d (slV l)),(18,.d (.v (.int .i64 l.length))),(19,.d (.v (.int .i64 (l1++[V.mk 1 n' s' lv]).length)))] [(500,rowB (bs++3::(digs l.length++az_ (l1++[.mk 1 n' s' lv])))),(1001,wc 1002),(1002,wb 1001)])
     (Wk.go [] 32 500 (by decide) (by simp) (by simp[e2]) (by simp[bc_,az_])) l2.length (by simp) ⟨l1++[.mk 1 n' s' lv],l2,by simp[hl12],rfl,rfl⟩
   ·repeat(first|apply wG|(apply wR;simp -dsimp[hv])|refine aI ?_)
    have hx:(V.enc (.mk 2 n' s' lv)).length=1+((digs s'.size).length+s'.size):=by simp[V.enc];omega
    refine vcStop.call hj_ (xW_ n' s' lv (bs:=bs++3::(digs l.length++az_ l1)) (by simp;omega)) (rl [(1000,500),(0,32)]) rfl rfl (by simp[V.d,V.cells,BoxLeq]) (ag_ (by simp[V.d,V.cells,BoxLeq]) rfl (by first|rfl|(simp[V.d,V.cells,BoxLeq];done)) (by simp[V.d,V.cells,BoxLeq]) (by simp[V.d,V.cells,BoxLeq])) (fun _ h=>h.elim) (fun ⟨_,h⟩=>h.elim) (fun ⟨_,h⟩=>h.elim) (by simp[V.d,V.cells,BoxLeq]) ?_
    refine sH ?_
    refine loopW.next (mkS 35 [(0,.row 500),(2,.ptr 1001 0),(17,.d (slV l)),(18,.d (.v (.int .i64 l.length))),(19,.d (.v (.int .i64 (l1++[V.mk 2 n' s' lv]).length)))] [(500,rowB (bs++3::(digs l.length++az_ (l1++[.mk 2 n' s' lv])))),(1001,wc 1002),(1002,wb 1001)])
     (Wk.go [] 32 500 (by decide) (by simp) (by simp[e2]) (by simp[bc_,az_])) l2.length (by simp) ⟨l1++[.mk 2 n' s' lv],l2,by simp[hl12],rfl,rfl⟩
   ·repeat(first|apply wG|(apply wR;simp -dsimp[hv])|refine aI ?_)
    refine vcStop.call hi_ (ih n' s' lv (bs++3::(digs l.length++az_ l1)) (i8_ (by rw[← hl12];exact hN)) hokl (cp_ hrgv).2 (by simp;omega)) (rl [(1000,500),(0,32)]) rfl rfl (by simp[V.d,V.cells,BoxLeq]) (ag_ (by simp[V.d,V.cells,BoxLeq]) rfl (by first|rfl|(simp[V.d,V.cells,BoxLeq];done)) (by simp[V.d,V.cells,BoxLeq]) (by simp[V.d,V.cells,BoxLeq])) (fun _ h=>h.elim) (fun ⟨_,h⟩=>h.elim) (fun ⟨_,h⟩=>h.elim) (by simp[V.d,V.cells,BoxLeq]) ?_
    refine sH ?_
    refine loopW.next (mkS 35 [(0,.row 500),(2,.ptr 1001 0),(17,.d (slV l)),(18,.d (.v (.int .i64 l.length))),(19,.d (.v (.int .i64 (l1++[V.mk 3 n' s' lv]).length)))] [(500,rowB (bs++3::(digs l.length++az_ (l1++[.mk 3 n' s' lv])))),(1001,wc 1002),(1002,wb 1001)])
     (Wk.go [] 32 500 (by decide) (by simp) (by simp[e2]) (by simp[bc_,az_])) l2.length (by simp) ⟨l1++[.mk 3 n' s' lv],l2,by simp[hl12],rfl,rfl⟩
theorem zB_ {n:Int} (h:isI n) (s:ByteArray) (l:List V):Fun Tryz.prog 161 [.d (.v (.slice none 0 0)),.d (V.mk 1 n s l).d] [] (.row 0) [(0,rowB (V.mk 1 n s l).enc)] fun _=>False:=by
 have:=xX_ h s l (bs:=[]) (by simp)
 exact gP_ (by simpa using this) rfl rfl (by simp) rfl
theorem zA_ (n:Int) (s:ByteArray) (l:List V) (h:s.size≤1000000000):Fun Tryz.prog 164 [.d (.v (.slice none 0 0)),.d (V.mk 2 n s l).d] [] (.row 0) [(0,rowB (V.mk 2 n s l).enc)] fun _=>False:=by
 have:=xW_ n s l (bs:=[]) (by simpa using h)
 exact gP_ (by simpa using this) rfl rfl (by simp) rfl
theorem zz_ (n:Int) (s:ByteArray) (l:List V) (h1:cq_ l=true) (h2:bk_ l=true) (h3:(V.enc (.mk 3 n s l)).length≤1000000000) :
  Fun Tryz.prog 165 [.d (.v (.slice none 0 0)),.d (V.mk 3 n s l).d,.ptr 1001 0] [(1001,wc 1002),(1002,wb 1001)] (.row 0) [(0,rowB (V.enc (.mk 3 n s l))),(1001,wc 1002),(1002,wb 1001)] fun _=>False:=by
 have:=Fi_ _ n s l [] (Nat.le_refl _) h1 h2 (by simpa using h3)
 exact gP_ (by simpa using this) rfl (by simp) (by simp) rfl
def V.encB (v:V):List UInt8:=if v.chk=0 then v.enc else []
theorem q8_ {v:V} (h:v.chk=0):v.ok=true:=by
 rw[V.chk] at h
 split at h
 ·assumption
 ·cases h
theorem Cn_ (v:V) (hd:v.dep≤1000000) (hr:v.rng=true) (hl:v.enc.length≤1000000000):Fn0 Tryz.prog 50 [v.d] (.tup [slB v.encB,.v (.int .i64 v.chk)]):=by
 refine ad_ (pn:=an_) ac_ Tryz.func50 rfl fun β0=>?_
 simp only[Tryz.f50]
 obtain⟨k,n,s,l⟩:=v
 rw[V.d,V.cells]
 refine sG ?_
 refine aa_ n8_ (Cl_ (.mk k n s l) hd) rfl rfl (by simp[V.d,V.cells]) ?_
 refine sH ?_
 refine WP.cond (b := !decide (V.chk (.mk k n s l)=0)) (by simp) (fun hb=>?_) (fun hb=>?_)
 ·have hb:¬ V.chk (.mk k n s l)=0:=by simpa using hb
  refine sG ?_
  refine WP.ret (finQ.ret ?_)
  simp -dsimp[V.encB,hb,slB]
 have hb:V.chk (.mk k n s l)=0:=by simpa using hb
 refine WP.skip ?_
 refine sH ?_
 rcases nn_ (q8_ hb) with rfl|rfl|⟨rfl,hokl⟩
 ·refine vcStop.call eq_ (uu_) (rl [(0,10),(1,600)]) rfl rfl (by simp[BoxLeq]) aGq (fun _ h=>h.elim) (fun ⟨_,h⟩=>h.elim) (fun ⟨_,h⟩=>h.elim) (by simp[BoxLeq]) ?_
  simp -dsimp
  repeat refine aI ?_
  refine vcStop.call hk_ (zB_ (cp_ hr).1 s l) (rl [(0,18)]) rfl rfl (by simp[V.d,V.cells,BoxLeq]) (ag_ (by simp[V.d,V.cells,BoxLeq]) rfl (by first|rfl|(simp[V.d,V.cells,BoxLeq];done)) (by simp[V.d,V.cells,BoxLeq]) (by simp[V.d,V.cells,BoxLeq])) (fun _ h=>h.elim) (fun ⟨_,h⟩=>h.elim) (fun ⟨_,h⟩=>h.elim) (by simp[V.d,V.cells,BoxLeq]) ?_
  refine sH ?_
  refine WP.ret (a1_ (Wk.freeze (k:=18) (T:=5) (sz:=1) (ds:=bys _) (by simp;exact⟨rfl,rfl⟩)) ?_)
  simp[V.encB,hb,slB]
 ·refine vcStop.call eq_ (uu_) (rl [(0,10),(1,600)]) rfl rfl (by simp[BoxLeq]) aGq (fun _ h=>h.elim) (fun ⟨_,h⟩=>h.elim) (fun ⟨_,h⟩=>h.elim) (by simp[BoxLeq]) ?_
  simp -dsimp
  repeat refine aI ?_
  have hx:s.size≤1000000000:=by simp[V.enc] at hl;omega
  refine vcStop.call hj_ (zA_ n s l hx) (rl [(0,18)]) rfl rfl (by simp[V.d,V.cells,BoxLeq]) (ag_ (by simp[V.d,V.cells,BoxLeq]) rfl (by first|rfl|(simp[V.d,V.cells,BoxLeq];done)) (by simp[V.d,V.cells,BoxLeq]) (by simp[V.d,V.cells,BoxLeq])) (fun _ h=>h.elim) (fun ⟨_,h⟩=>h.elim) (fun ⟨_,h⟩=>h.elim) (by simp[V.d,V.cells,BoxLeq]) ?_
  refine sH ?_
  refine WP.ret (a1_ (Wk.freeze (k:=18) (T:=5) (sz:=1) (ds:=bys _) (by simp;exact⟨rfl,rfl⟩)) ?_)
  simp[V.encB,hb,slB]
 ·refine vcStop.call eq_ (uu_) (rl [(0,10),(1,600)]) rfl rfl (by simp[BoxLeq]) aGq (fun _ h=>h.elim) (fun ⟨_,h⟩=>h.elim) (fun ⟨_,h⟩=>h.elim) (by simp[BoxLeq]) ?_
  simp -dsimp
  repeat refine aI ?_
  refine vcStop.call hi_ (zz_ n s l hokl (cp_ hr).2 hl) (rl [(1001,600),(1002,10),(0,18)]) rfl rfl (by simp[V.d,V.cells,BoxLeq]) (ag_ (by simp[V.d,V.cells,BoxLeq]) rfl (by first|rfl|(simp[V.d,V.cells,BoxLeq];done)) (by simp[V.d,V.cells,BoxLeq]) (by simp[V.d,V.cells,BoxLeq])) (fun _ h=>h.elim) (fun ⟨_,h⟩=>h.elim) (fun ⟨_,h⟩=>h.elim) (by simp[V.d,V.cells,BoxLeq]) ?_
  refine sH ?_
  refine WP.ret (a1_ (Wk.freeze (k:=18) (T:=5) (sz:=1) (ds:=bys _) (by simp;exact⟨rfl,rfl⟩)) ?_)
  simp[V.encB,hb,slB]
end Go.Proofs.YtkcgffilldklcaaGreatDoor
namespace Go.Proofs.YtkcgffilldklcaaGreatDoor
open Go.Xe Go.RowKit
@[simp] theorem FI_ (l:List UInt8):slB l=.sl 1 (bys l) l.length false:=rfl
theorem Fm_:∀ (N:Nat) (v:V),v.sz≤N→v.rng=true→v.enc.length≤1000000000→Fn0 Tryz.prog 132 [v.d] (slB v.enc):=by
 intro N
 induction N with
 | zero=>rintro⟨k,n,s,l⟩ hN;rw[V.sz] at hN;omega
 | succ N ih =>
  rintro⟨k,n,s,l⟩ hN hrg hlen
  refine ad_ (pn:=an_) ac_ Tryz.func132 rfl fun β0=>?_
  simp only[Tryz.f132]
  rw[V.d,V.cells]
  refine u8_ (.tmp 0) 3 rfl fun hl=>?_
  have hm:maxLen=9223372036854775807:=rfl
  rw[hm] at hl
  have hI:=(cp_ hrg).1
  refine sG ?_
  refine WP.cond (b:=decide (k=1)) (by simp) (fun hb=>?_) (fun hb=>?_)
  ·have hb:=of_decide_eq_true hb
   subst hb
   refine sG ?_
   refine aa_ nx_ (Cb_ hI) rfl rfl (by simp) ?_
   simp -dsimp
   repeat refine aI ?_
   refine aa_ cU_ (qO_ _ (lX_ hI)) rfl rfl (by simp) ?_
   have:=bf_ (lX_ hI)
   refine sH ?_
   refine WP.ret (a1_ (Wk.freeze (k:=14) (T:=5) (sz:=1) (ds:=bys (1::digs (zig n))) (by simp;rfl)) ?_)
   simp[V.enc,Nat.add_comm,Nat.add_left_comm]
  have hk1:¬ k=1:=of_decide_eq_false hb
  refine sG ?_
  refine WP.cond (b:=decide (k=2)) (by simp) (fun hb=>?_) (fun hb=>?_)
  ·have hb:=of_decide_eq_true hb
   subst hb
   have hx:s.size≤1000000000:=by simp[V.enc] at hlen;omega
   have e1:IntKind.u64.wrap (s.size:Int)=(s.size:Nat):=IntWalk.u64_in _ (by omega)
   refine sG ?_
   rw[e1]
   refine aa_ cU_ (qO_ s.size (by unfold isU;omega)) rfl rfl (by simp) ?_
   have:=bf_ (u:=s.size) (by unfold isU;omega)
   refine sH ?_
   refine WP.ret (a1_ (Wk.freeze (k:=26) (T:=5) (sz:=1) (ds:=bys (2::(digs s.size++s.data.toList))) (by simp;rfl)) ?_)
   simp[V.enc,Nat.add_comm,Nat.add_left_comm]
  have hk2:¬ k=2:=of_decide_eq_false hb
  have he:(V.mk k n s l).enc=3::(digs l.length++az_ l):=by simp[V.enc,hk1,hk2]
  have e1:IntKind.u64.wrap (l.length:Int)=(l.length:Nat):=IntWalk.u64_in _ (by omega)
  have hd:=bf_ (u:=l.length) (by unfold isU;omega)
  have hlen':1+(digs l.length).length+(az_ l).length≤1000000000:=by
   rw[he] at hlen;simp at hlen;omega
  have hrgl:=(cp_ hrg).2
  refine WP.skip ?_
  refine sH ?_
  rw[e1]
  refine aa_ cU_ (qO_ l.length (by unfold isU;omega)) rfl rfl (by simp) ?_
  refine sH ?_
  refine ai_ (fun m S=>∃ l1 l2,l=l1++l2∧m=l2.length∧S=mkS 50 [(1,.ptr 1 0),(3,.row 500),(4,.d (.v (.int .i64 l1.length)))] [(1,bV k n s l),(500,rowB (3::(digs l.length++az_ l1)))]) l.length
   (S0:=mkS 50 [(1,.ptr 1 0),(3,.row 500),(4,.d (.v (.int .i64 0)))] [(1,bV k n s l),(500,rowB (3::(digs l.length++az_ [])))]) (Wk.go [] 33 500 (by decide) (by simp) (by simp) (by simp[az_];omega)) ⟨[],l,rfl,rfl,by simp⟩ ?_
  rintro _ _ ⟨l1,l2,hl12,rfl,rfl⟩
  refine sH ?_
  cases l2 with
  | nil =>
   simp only[List.append_nil] at hl12
   subst hl12
   refine cE ?_
   refine WP.exit ?_
   refine sH ?_
   refine WP.ret (a1_ (Wk.freeze (k:=500) (T:=5) (sz:=1) (ds:=bys (3::(digs l.length++az_ l))) (by simp;rfl)) ?_)
   simp[he]
  | cons v l2 =>
   have hll:l.length=l1.length+(l2.length+1):=by rw[hl12];simp
   refine cT (by simp;omega) ?_
   refine WP.skip ?_
   simp -dsimp
   refine WP.seq (WP.block ?_)
   have hv:=b9_ l1 v l2
   rw[← hl12] at hv
   have hrgv:v.rng=true:=by rw[hl12,dF_,bk_] at hrgl;simp only[Bool.and_eq_true] at hrgl;exact hrgl.2.1
   have hlv:1+(digs l.length).length+(az_ l1).length+v.enc.length≤1000000000:=by
    have:(az_ l).length=(az_ l1).length+(v.enc.length+(az_ l2).length):=by rw[hl12,bc_,az_];simp
    omega
   obtain⟨k',n',s',lv⟩:=v
   rw[V.cells] at hv
   have e2:IntKind.i64.wrap ((l1.length:Int)+1)=(l1.length:Int)+1:=IntWalk.i64_in _ (by omega)
   repeat(first|apply wG|(apply wR;simp -dsimp[hv])|refine aI ?_)
   refine aa_ ep_ (ih (.mk k' n' s' lv) (i8_ (by rw[← hl12];exact hN)) hrgv (by omega)) rfl rfl (by simp[V.d,V.cells]) ?_
   refine sH ?_
   refine loopW.next (mkS 50 [(1,.ptr 1 0),(3,.row 500),(4,.d (.v (.int .i64 (l1++[V.mk k' n' s' lv]).length)))] [(1,bV k n s l),(500,rowB (3::(digs l.length++az_ (l1++[.mk k' n' s' lv]))))])
    (Wk.go [] 48 500 (by decide) (by simp) (by simp[e2]) (by simp[bc_,az_];omega)) l2.length (by simp) ⟨l1++[.mk k' n' s' lv],l2,by simp[hl12],rfl,rfl⟩
theorem x0_ (v:V) (h1:v.rng=true) (h2:v.enc.length≤1000000000):Fn0 Tryz.prog 132 [v.d] (slB v.enc):=Fm_ v.sz v (Nat.le_refl _) h1 h2
theorem Cm_ (v:V) (hd:v.dep≤1000000) (hr:v.rng=true) (hl:v.enc.length≤1000000000):Fn0 Tryz.prog 71 [v.d] (.tup [slB v.encB,.v (.int .i64 v.chk)]):=by
 refine ad_ (pn:=an_) ac_ Tryz.func71 rfl fun β0=>?_
 simp only[Tryz.f71]
 obtain⟨k,n,s,l⟩:=v
 rw[V.d,V.cells]
 refine sG ?_
 refine aa_ hs_ (x1_ (.mk k n s l) hd) rfl rfl (by simp[V.d,V.cells]) ?_
 refine sH ?_
 refine WP.cond (b := !decide (V.chk (.mk k n s l)=0)) (by simp) (fun hb=>?_) (fun hb=>?_)
 ·have hb:¬ V.chk (.mk k n s l)=0:=by simpa using hb
  refine sG ?_
  refine WP.ret (finQ.ret ?_)
  simp -dsimp[V.encB,hb]
 have hb:V.chk (.mk k n s l)=0:=by simpa using hb
 refine WP.skip ?_
 refine sH ?_
 refine aa_ ep_ (x0_ (.mk k n s l) hr hl) rfl rfl (by simp[V.d,V.cells]) ?_
 refine sH ?_
 refine WP.ret (finQ.ret ?_)
 simp -dsimp[V.encB,hb]
end Go.Proofs.YtkcgffilldklcaaGreatDoor
namespace Go.Proofs.YtkcgffilldklcaaGreatDoor
open Go.Xe Go.RowKit
mutual
def V.same:V→V→Bool
 | .mk k n s l,.mk k' n' s' l'=>decide (k=k')&&decide (n=n')&&decide (s=s')&&u9_ l l'
def u9_:List V→List V→Bool
 | [],[]=>true
 | v::l,v'::l'=>V.same v v'&&u9_ l l'
 | _,_=>false
end
end Go.Proofs.YtkcgffilldklcaaGreatDoor
namespace Go.Proofs.YtkcgffilldklcaaGreatDoor
open Go.Xe Go.RowKit
end Go.Proofs.YtkcgffilldklcaaGreatDoor
namespace Go.Proofs.YtkcgffilldklcaaGreatDoor
open Go.Xe Go.RowKit
theorem Ci_ (n:Int):Fn0 Tryz.prog 133 [.v (.int .i64 n)] (V.mk 1 n ⟨#[]⟩ []).d:=by
 refine ad_ (pn:=an_) ac_ Tryz.func133 rfl fun β0=>?_
 simp only[Tryz.f133]
 refine sG ?_
 refine WP.ret (finQ.ret ?_)
 simp -dsimp[V.d,V.cells,ar_]
end Go.Proofs.YtkcgffilldklcaaGreatDoor
