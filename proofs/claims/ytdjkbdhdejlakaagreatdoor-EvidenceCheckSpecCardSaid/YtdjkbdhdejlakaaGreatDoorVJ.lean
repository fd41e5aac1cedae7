/-
  Joined texts.
-/
import Derived.Test.YtdjkbdhdejlakaaGreatDoorVZ
import Derived.Test.YtdjkbdhdejlakaaGreatDoorVI
import Derived.Test.YtdjkbdhdejlakaaGreatDoorVEX
set_option linter.unusedVariables false
set_option linter.unusedSimpArgs false
set_option linter.unusedSectionVars false
namespace Go.Proofs.YtdjkbdhdejlakaaGreatDoor
open Go.Xe Go.RowKit
abbrev ER_:D:=.v (.func (.func 34) #[] #[])
@[simp] def cBS:Box:=.cells 101 [.d ER_]
theorem ts_ (g:D):Fn0 Tryz.prog 84 [fB_,g] (.v (.int .i64 (-1))):=by
 refine ac_ (pn:=ao_) aa_ Tryz.func84 rfl fun β0=>?_
 simp only[Tryz.f84]
 repeat(first|apply wG|(apply wR;simp -dsimp)|refine aI ?_)
 refine ak_ (fun m S=>S=mkS 19 [(7,.d (.v (.int .i64 0))),(8,.d (.v (.int .i64 0)))] []) 1
  (S0:=mkS 19 [(7,.d (.v (.int .i64 0))),(8,.d (.v (.int .i64 0)))] []) (ae_ [] (by simp) (by simp)) rfl ?_
 rintro _ _ rfl
 simp -dsimp
 repeat(first|apply wG|(apply wR;simp -dsimp)|refine aI ?_)
 refine cF (by simp) ?_
 refine WP.exit ?_
 simp -dsimp
 repeat(first|apply wG|(apply wR;simp -dsimp)|refine aI ?_)
 refine WP.ret (ab_ ?_)
 simp -dsimp
theorem mC_ (g:D):Fn0 Tryz.prog 58 [fB_,g] (.v (.bool false)):=by
 refine ac_ (pn:=ao_) aa_ Tryz.func58 rfl fun β0=>?_
 simp only[Tryz.f58]
 repeat(first|apply wG|(apply wR;simp -dsimp)|refine aI ?_)
 refine af_ iD_ (ts_ g) rfl rfl (by simp) ?_
 simp -dsimp
 repeat(first|apply wG|(apply wR;simp -dsimp)|refine aI ?_)
 refine WP.ret (ab_ ?_)
 simp -dsimp
theorem d2_:Fn0 Tryz.prog 32 [fB_] (.v (.int .i64 0)):=by
 refine ac_ (pn:=ao_) aa_ Tryz.func32 rfl fun β0=>?_
 simp only[Tryz.f32]
 repeat(first|apply wG|(apply wR;simp -dsimp)|refine aI ?_)
 refine ah_ iO_ (fun _=>mC_ (.v (.func (.func 59) #[] #[]))) rfl (fun _=>rfl) (fun _=>by simp) ?_
 simp -dsimp
 repeat(first|apply wG|(apply wR;simp -dsimp)|refine aI ?_)
 refine cF (by simp) ?_
 refine WP.skip ?_
 simp -dsimp
 repeat(first|apply wG|(apply wR;simp -dsimp)|refine aI ?_)
 refine WP.ret (ab_ ?_)
 simp -dsimp
def shF (c n t:Int):F:=fun i=>if i=0 then c else if i=1 then n else if i=2 then t else if i=3 then 12 else 0
theorem zs_ {c n t:Int} (h1:isI c) (h2:isI n) (h3:isI t):fOk (shF c n t):=by
 refine⟨fun i=>?_,.inl rfl,fun i hi=>?_⟩
 ·unfold shF
  split
  ·exact h1
  ·split
   ·exact h2
   ·split
    ·exact h3
    ·split
     ·unfold isI;omega
     ·exact vy_
 ·unfold shF
  rw[if_neg (by omega),if_neg (by omega),if_neg (by omega),if_neg (by omega)]
def zs:List D:=[.v (.int .i64 0),fB_,fB_,fB_]
theorem xh_ (f:F) (s:List D) (hf:fOk f) (hs:s.length=4) (hs1:∀ d∈s,oneD d=true) (h0:0≤f 0):Fn0 Tryz.prog 60 [fB_,.agg (fcs f 0 57++s)] (.v (.int .i64 (if (numF f).2=true then 130 else 120))):=by
 have hc:=hx_ f hf
 refine ac_ (pn:=ao_) aa_ Tryz.func60 rfl fun β0=>?_
 simp only[Tryz.f60]
 have h57:List.take 57 (List.map AV.d (fcs f 0 57)++List.map AV.d s)=(fcs f 0 57).map .d:=by
  rw[List.take_append,List.length_map,ax_,List.take_of_length_le (by rw[List.length_map,ax_];omega)]
  simp
 have hone:∀ c∈List.map AV.d (fcs f 0 57)++List.map AV.d s,oneA c=true:=fun c h=>by
  rw[← List.map_append] at h
  obtain⟨d,hd,rfl⟩:=List.mem_map.1 h
  rcases List.mem_append.1 hd with hd|hd
  ·exact fcs_side hd
  ·exact hs1 d hd
 repeat(first|apply wG|(apply wR;simp -dsimp[hs])|refine aI ?_)
 refine ad_ bg_ d2_ rfl rfl (by simp) ?_
 simp -dsimp
 repeat(first|apply wG|(apply wR;simp -dsimp)|refine aI ?_)
 refine cF (by simp) ?_
 refine WP.skip ?_
 simp -dsimp
 repeat(first|apply wG|(apply wR;simp -dsimp[hs,h57])|refine aI ?_)
 refine ad_ dB_ hc rfl rfl (by simp[fD]) ?_
 simp -dsimp
 repeat(first|apply wG|(apply wR;simp -dsimp)|refine aI ?_)
 refine WP.cond (b := !(numF f).2) (by cases (numF f).2<;>simp) (fun hb=>?_) (fun hb=>?_)
 ·have hb:(numF f).2=false:=by simpa using hb
  repeat(first|apply wG|(apply wR;simp -dsimp)|refine aI ?_)
  refine WP.ret (ab_ ?_)
  simp -dsimp[hb]
 ·have hb:(numF f).2=true:=by simpa using hb
  refine WP.skip ?_
  simp -dsimp
  repeat(first|apply wG|(apply wR;simp -dsimp)|refine aI ?_)
  refine cT (by simp;exact h0) ?_
  repeat(first|apply wG|(apply wR;simp -dsimp)|refine aI ?_)
  refine WP.ret (ab_ ?_)
  simp -dsimp[hb]
def sY_ (f:F):Int:=if (numF f).2=true then 130 else 120
def p5_ (i:Nat) (xs ys:List D):List D:=xs.take (i*61)++ys++xs.drop (i*61)
theorem vA_ {n:Nat} {xs ys:List D} (hx:xs.length=n*61):p5_ n xs ys=xs++ys:=by
 rw[p5_,List.take_of_length_le (by omega),List.drop_eq_nil_of_le (by omega),List.append_nil]
theorem tn_ {α:Type} (k n i:Nat) (xs ys:List α) (hx:xs.length=n*k) (hy:ys.length=k) (hi:i<n) :
  ((xs.take ((i+1)*k)++(xs.drop (i*k)).take ((n-i)*k)++xs.drop ((i+1)*k+(n-i)*k)).take (i*k)++ys.take k++(xs.take ((i+1)*k)++(xs.drop (i*k)).take ((n-i)*k)++xs.drop ((i+1)*k+(n-i)*k)).drop (i*k+k))=xs.take (i*k)++ys++xs.drop (i*k):=by
 have e1:(i+1)*k=i*k+k:=by rw[Nat.add_mul,Nat.one_mul]
 have e2:i*k+(n-i)*k=n*k:=by rw[← Nat.add_mul];congr 1;omega
 have e3:i*k+k≤n*k:=by rw[← e1];exact Nat.mul_le_mul_right _ (by omega)
 rw[e1,List.take_of_length_le (l:=xs.drop (i*k)) (by rw[List.length_drop];omega),@List.drop_eq_nil_of_le _ xs (i*k+k+(n-i)*k) (by omega),List.append_nil,List.take_of_length_le (l:=ys) (by omega)]
 have l1:(xs.take (i*k+k)).length=i*k+k:=by rw[List.length_take];omega
 rw[List.take_append_of_le_length (by omega),List.take_take,Nat.min_eq_left (by omega),List.drop_append_of_le_length (by omega),List.drop_eq_nil_of_le (by omega),List.nil_append]
theorem to_ {α:Type} (a:α) (k n i:Nat) (xs ys:List α) (hx:xs.length=n*k) (hy:ys.length=k) (hi:i<n) (Z:List α) (hZ:Z=(xs.take (i*k)++List.replicate ((n+1-i)*k) a).take (i*k)++ys.take k++(xs.take (i*k)++List.replicate ((n+1-i)*k) a).drop (i*k+k)) :
  Z.take ((i+1)*k)++(xs.drop (i*k)).take ((n-i)*k)++Z.drop ((i+1)*k+(n-i)*k)=xs.take (i*k)++ys++xs.drop (i*k):=by
 have e1:(i+1)*k=i*k+k:=by rw[Nat.add_mul,Nat.one_mul]
 have e2:i*k+(n-i)*k=n*k:=by rw[← Nat.add_mul];congr 1;omega
 have e3:i*k+k≤n*k:=by rw[← e1];exact Nat.mul_le_mul_right _ (by omega)
 have e4:(n+1-i)*k=(n-i)*k+k:=by rw[show n+1-i=(n-i)+1 by omega,Nat.add_mul,Nat.one_mul]
 have l1:(xs.take (i*k)).length=i*k:=by rw[List.length_take];omega
 have hz:Z=xs.take (i*k)++ys++(List.replicate ((n+1-i)*k) a).drop k:=by
  rw[hZ,List.take_of_length_le (l:=ys) (by omega),List.take_left' l1]
  congr 1
  rw[List.drop_append,l1,Nat.add_sub_cancel_left,List.drop_eq_nil_of_le (by omega),List.nil_append]
 rw[List.take_of_length_le (l:=xs.drop (i*k)) (by rw[List.length_drop];omega)]
 have lz:Z.length=(n+1)*k:=by
  rw[hz];simp only[List.length_append,l1,List.length_drop,List.length_replicate,hy];rw[Nat.add_mul];omega
 have e5:(n+1)*k=n*k+k:=by rw[Nat.add_mul,Nat.one_mul]
 rw[@List.drop_eq_nil_of_le _ Z _ (by omega),List.append_nil,hz,e1]
 rw[List.take_left' (by rw[List.length_append,l1,hy])]
set_option maxRecDepth 10000 in
theorem jM_ (n i:Nat) (xs ys:List D) (hx:xs.length=n*61) (hy:ys.length=61) (hi:i≤n) (hn:n≤1000) :
  Fun Tryz.prog 71 [.row 1000,.d (.v (.int .i64 i)),.row 1001] [(1000,.row 63 61 n (xs.map .d)),(1001,.row 63 61 1 (ys.map .d))] (.row 0) [(0,.row 63 61 (n+1) ((p5_ i xs ys).map .d))] fun _=>False:=by
 refine ac_ (pn:=ao_) aa_ Tryz.func71 rfl fun β0=>?_
 simp only[Tryz.f71]
 repeat(first|apply wG|(apply wR;simp -dsimp)|refine aI ?_)
 refine hC_ aa_ (k:=1000) (m:=i) rfl rfl rfl rfl rfl hi rfl ?_
 simp -dsimp
 repeat(first|apply wG|(apply wR;simp -dsimp)|refine aI ?_)
 refine cF (by simp) ?_
 refine WP.skip ?_
 simp -dsimp
 repeat(first|apply wG|(apply wR;simp -dsimp)|refine aI ?_)
 by_cases hin:i=n
 ·subst hin
  refine cT (by simp) ?_
  repeat(first|apply wG|(apply wR;simp -dsimp)|refine aI ?_)
  refine WP.ret (am_ (S':=mkS 95 [(6,.row 0)] [(0,.row 63 61 (i+1) ((p5_ i xs ys).map .d))]) (Wk.go [1001] 25 0 (by decide) (by simp) (by simp) (by simp[vA_ hx])) ?_)
  simp -dsimp
 ·refine cF (by simp;omega) ?_
  refine WP.skip ?_
  simp -dsimp
  refine xa_ (xb_ (k:=1000) (n:=n) (xs:=xs) rfl (by omega)) ?_
  rintro⟨⟨g,c⟩,hnc,hcm⟩
  simp -dsimp[exA]
  repeat(first|apply wG|(apply wR;simp -dsimp)|refine aI ?_)
  refine lA_ aa_ rfl rfl rfl ?_
  have hnc:n≤c:=hnc
  have e1:IntKind.i64.wrap ((n:Int)+1)=(n:Int)+1:=IntWalk.i64_in _ (by omega)
  have e2:IntKind.i64.wrap ((n:Int)+1-i)=((n+1-i:Nat):Int):=by rw[IntWalk.i64_in _ (by omega)];omega
  have e3:i+(n+1-i)=n+1:=by omega
  have e4:IntKind.i64.wrap ((i:Int)+1)=((i+1:Nat):Int):=by rw[IntWalk.i64_in _ (by omega)];omega
  simp -dsimp[e1]
  by_cases hr:c<n+1
  ·refine cT (by simp[e1];omega) ?_
   repeat(first|apply wG|(apply wR;simp -dsimp[e1])|refine aI ?_)
   refine aJ_ aa_ rfl rfl rfl (l:=0) (h:=i) rfl rfl rfl (by omega) (by omega) (by omega) ?_
   simp -dsimp[e1,e2]
   refine g4_ aa_ rfl 500 (k:=1000) (m:=n+1-i) rfl rfl rfl (by decide) rfl rfl (by simp;omega) (by omega) rfl (by omega) (by simp;omega) (by simp[Ex]) ?_
   simp -dsimp[e3]
   refine xa_ (xb_ (k:=500) (T:=63) (sz:=61) (n:=n+1) (xs:=xs.take (i*61)++List.replicate ((n+1-i)*61) D.any) (by simp) (by omega)) ?_
   rintro⟨⟨g2,c2⟩,hnc2,hcm2⟩
   have hnc2:n+1≤c2:=hnc2
   simp -dsimp[exA]
   repeat(first|apply wG|(apply wR;simp -dsimp)|refine aI ?_)
   refine aJ_ aa_ rfl rfl rfl (l:=i) (h:=n+1) rfl rfl rfl (by omega) (by omega) (by omega) ?_
   simp -dsimp
   refine b7_ aa_ rfl rfl rfl (k:=500) rfl rfl (CpSrc.row (k:=1001) rfl rfl (by decide)) 1 (Nat.min_eq_left (by omega)) (by simp;omega) (by simp;omega) (by simp;omega) ?_
   simp -dsimp
   generalize hZ:List.take (i*61) (List.take (i*61) xs++List.replicate ((n+1-i)*61) D.any)++(List.take 61 ys++List.drop (i*61+61) (List.take (i*61) xs++List.replicate ((n+1-i)*61) D.any))=Z
   have hZl:Z.length=(n+1)*61:=by rw[← hZ];simp;omega
   have e5:Z.take ((i+1)*61)++((xs.drop (i*61)).take ((n-i)*61)++Z.drop ((i+1)*61+(n-i)*61))=p5_ i xs ys:=by
    rw[← List.append_assoc]
    exact to_ D.any 61 n i xs ys hx hy (by omega) Z (by rw[← hZ,List.append_assoc])
   repeat(first|apply wG|(apply wR;simp -dsimp[e4])|refine aI ?_)
   refine aJ_ aa_ rfl rfl rfl (l:=i+1) (h:=n+1) rfl rfl rfl (by omega) (by omega) (by omega) ?_
   simp -dsimp
   refine aJ_ aa_ rfl rfl rfl (l:=i) (h:=n) rfl rfl rfl (by omega) (by omega) (by omega) ?_
   simp -dsimp
   refine b7_ aa_ rfl rfl rfl (k:=500) rfl rfl (qP_ (k:=1000) rfl rfl) (n-i) (Nat.min_self _) (by simp;omega) (by omega) (by simp;omega) ?_
   simp -dsimp
   repeat(first|apply wG|(apply wR;simp -dsimp)|refine aI ?_)
   rw[e5]
   refine WP.ret (am_ (S':=mkS 95 [(6,.row 0)] [(0,.row 63 61 (n+1) ((p5_ i xs ys).map .d))]) ((um_ 6 500 0 (n+1) rfl (by omega) (by simp[p5_];omega) rfl (by simp[Ex])).trans (ae_ [1000,1001] (by simp) (by simp))) ?_)
   simp -dsimp
  ·refine cF (by simp[e1];omega) ?_
   refine WP.skip ?_
   repeat(first|apply wG|(apply wR;simp -dsimp[e1])|refine aI ?_)
   refine aJ_ aa_ rfl rfl rfl (l:=0) (h:=n+1) rfl rfl (by simp[fU_,n6_]) (by omega) (by omega) (by omega) ?_
   simp -dsimp
   repeat(first|apply wG|(apply wR;simp -dsimp[e4])|refine aI ?_)
   refine aJ_ aa_ rfl rfl rfl (l:=i+1) (h:=n+1) rfl rfl rfl (by omega) (by omega) (by omega) ?_
   simp -dsimp
   refine fZ_ aa_ (T:=23) (R:=4) Tryz.func99 (by kernel_rfl) rfl (by kernel_rfl) (by kernel_rfl) rfl rfl rfl (by decide) (j:=1001) (k:=1000) (by decide) rfl rfl (by decide) rfl rfl (by omega) ?_
   simp -dsimp
   refine cT (by simp) ?_
   repeat(first|apply wG|(apply wR;simp -dsimp[e4])|refine aI ?_)
   refine aJ_ aa_ rfl rfl rfl (l:=i+1) (h:=n+1) rfl rfl rfl (by omega) (by omega) (by omega) ?_
   simp -dsimp
   refine aJ_ aa_ rfl rfl rfl (l:=i) (h:=n+1) rfl rfl rfl (by omega) (by omega) (by omega) ?_
   simp -dsimp
   refine b7_ aa_ rfl rfl rfl (k:=1000) rfl rfl (qP_ (k:=1000) rfl rfl) (n-i) (Nat.min_eq_right (by omega)) (by simp;omega) (by omega) (by simp;omega) ?_
   simp -dsimp
   repeat(first|apply wG|(apply wR;simp -dsimp)|refine aI ?_)
   generalize hZ:List.take ((i+1)*61) xs++(List.take ((n-i)*61) (List.drop (i*61) xs)++List.drop ((i+1)*61+(n-i)*61) xs)=Z
   have hZl:Z.length=(n+1)*61:=by rw[← hZ];simp;omega
   have e5:Z.take (i*61)++(ys.take 61++Z.drop (i*61+61))=p5_ i xs ys:=by
    rw[← List.append_assoc,← hZ,← List.append_assoc]
    exact tn_ 61 n i xs ys hx hy (by omega)
   refine aJ_ aa_ rfl rfl rfl (l:=i) (h:=n+1) rfl rfl rfl (by omega) (by omega) (by omega) ?_
   simp -dsimp
   refine b7_ aa_ rfl rfl rfl (k:=1000) rfl rfl (CpSrc.row (k:=1001) rfl rfl (by decide)) 1 (Nat.min_eq_left (by omega)) (by simp;omega) (by omega) (by simp;omega) ?_
   simp -dsimp
   repeat(first|apply wG|(apply wR;simp -dsimp)|refine aI ?_)
   rw[e5]
   refine WP.ret (am_ (S':=mkS 95 [(6,.row 0)] [(0,.row 63 61 (n+1) ((p5_ i xs ys).map .d))]) ((um_ 6 1000 0 (n+1) rfl (by omega) (by simp[p5_];omega) rfl (by simp[Ex])).trans (ae_ [1001] (by simp) (by simp))) ?_)
   simp -dsimp
end Go.Proofs.YtdjkbdhdejlakaaGreatDoor
