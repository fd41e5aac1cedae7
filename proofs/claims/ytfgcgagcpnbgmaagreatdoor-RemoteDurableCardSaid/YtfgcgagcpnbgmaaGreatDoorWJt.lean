/-
  Evidence: the library's insertion of one signed fact into a row, walked: at the end, in place, or into a new row.
-/
import Derived.Test.YtfgcgagcpnbgmaaGreatDoorWJn
import Derived.Test.YtfgcgagcpnbgmaaGreatDoorWEX
set_option linter.unusedVariables false
set_option linter.unusedSimpArgs false
set_option linter.unusedSectionVars false
namespace Go.Proofs.YtfgcgagcpnbgmaaGreatDoor
open Go.Xe Go.RowKit
def pm_ (i:Nat) (xs ys:List D):List D:=xs.take (i*61)++ys++xs.drop (i*61)
theorem uV_ {n:Nat} {xs ys:List D} (hx:xs.length=n*61):pm_ n xs ys=xs++ys:=by
 rw[pm_,List.take_of_length_le (by omega),List.drop_eq_nil_of_le (by omega),List.append_nil]
theorem sJ_ {α:Type} (k n i:Nat) (xs ys:List α) (hx:xs.length=n*k) (hy:ys.length=k) (hi:i<n) :
  ((xs.take ((i+1)*k)++(xs.drop (i*k)).take ((n-i)*k)++xs.drop ((i+1)*k+(n-i)*k)).take (i*k)++ys.take k++(xs.take ((i+1)*k)++(xs.drop (i*k)).take ((n-i)*k)++xs.drop ((i+1)*k+(n-i)*k)).drop (i*k+k))=xs.take (i*k)++ys++xs.drop (i*k):=by
 have e1:(i+1)*k=i*k+k:=by rw[Nat.add_mul,Nat.one_mul]
 have e2:i*k+(n-i)*k=n*k:=by rw[← Nat.add_mul];congr 1;omega
 have e3:i*k+k≤n*k:=by rw[← e1];exact Nat.mul_le_mul_right _ (by omega)
 rw[e1,List.take_of_length_le (l:=xs.drop (i*k)) (by rw[List.length_drop];omega),@List.drop_eq_nil_of_le _ xs (i*k+k+(n-i)*k) (by omega),List.append_nil,List.take_of_length_le (l:=ys) (by omega)]
 have l1:(xs.take (i*k+k)).length=i*k+k:=by rw[List.length_take];omega
 rw[List.take_append_of_le_length (by omega),List.take_take,Nat.min_eq_left (by omega),List.drop_append_of_le_length (by omega),List.drop_eq_nil_of_le (by omega),List.nil_append]
theorem sK_ {α:Type} (a:α) (k n i:Nat) (xs ys:List α) (hx:xs.length=n*k) (hy:ys.length=k) (hi:i<n) (Z:List α) (hZ:Z=(xs.take (i*k)++List.replicate ((n+1-i)*k) a).take (i*k)++ys.take k++(xs.take (i*k)++List.replicate ((n+1-i)*k) a).drop (i*k+k)) :
  Z.take ((i+1)*k)++(xs.drop (i*k)).take ((n-i)*k)++Z.drop ((i+1)*k+(n-i)*k)=xs.take (i*k)++ys++xs.drop (i*k):=by
 have e1:(i+1)*k=i*k+k:=by rw[Nat.add_mul,Nat.one_mul]
 have e2:i*k+(n-i)*k=n*k:=by rw[← Nat.add_mul];congr 1;omega
 have e3:i*k+k≤n*k:=by rw[← e1];exact Nat.mul_le_mul_right _ (by omega)
 have e4:(n+1-i)*k=(n-i)*k+k:=by rw[show n+1-i=(n-i)+1 by omega,Nat.add_mul,Nat.one_mul]
 have l1:(xs.take (i*k)).length=i*k:=by rw[List.length_take];omega
 have hz:Z=xs.take (i*k)++ys++(List.replicate ((n+1-i)*k) a).drop k:=by
  rw[hZ,List.take_of_length_le (l:=ys) (by omega),List.take_left' l1]
  congr 1
  rw[List.drop_append,l1,Nat.add_sub_cancel_left,List.drop_eq_nil_of_le (by omega),List.nil_append]
 rw[List.take_of_length_le (l:=xs.drop (i*k)) (by rw[List.length_drop];omega)]
 have lz:Z.length=(n+1)*k:=by
  rw[hz];simp only[List.length_append,l1,List.length_drop,List.length_replicate,hy];rw[Nat.add_mul];omega
 have e5:(n+1)*k=n*k+k:=by rw[Nat.add_mul,Nat.one_mul]
 rw[@List.drop_eq_nil_of_le _ Z _ (by omega),List.append_nil,hz,e1]
 rw[List.take_left' (by rw[List.length_append,l1,hy])]
set_option maxRecDepth 10000 in
theorem jj_ (n i:Nat) (xs ys:List D) (hx:xs.length=n*61) (hy:ys.length=61) (hi:i≤n) (hn:n≤1000) :
  Fun Tryz.prog 136 [.row 1000,.d (.v (.int .i64 i)),.row 1001] [(1000,.row 82 61 n (xs.map .d)),(1001,.row 82 61 1 (ys.map .d))] (.row 0) [(0,.row 82 61 (n+1) ((pm_ i xs ys).map .d))] fun _=>False:=by
 refine ad_ (pn:=ap_) aa_ Tryz.func136 rfl fun β0=>?_
 simp only[Tryz.f136]
 repeat(first|apply wG|(apply wR;simp -dsimp)|refine aI ?_)
 refine ho_ aa_ (k:=1000) (m:=i) rfl rfl rfl rfl rfl hi rfl ?_
 simp -dsimp
 repeat(first|apply wG|(apply wR;simp -dsimp)|refine aI ?_)
 refine cF (by simp) ?_
 refine WP.skip ?_
 simp -dsimp
 repeat(first|apply wG|(apply wR;simp -dsimp)|refine aI ?_)
 by_cases hin:i=n
 ·subst hin
  refine cT (by simp) ?_
  repeat(first|apply wG|(apply wR;simp -dsimp)|refine aI ?_)
  refine WP.ret (ak_ (S':=mkS 95 [(6,.row 0)] [(0,.row 82 61 (i+1) ((pm_ i xs ys).map .d))]) (Wk.go [1001] 25 0 (by decide) (by simp) (by simp) (by simp[uV_ hx])) ?_)
  simp -dsimp
 ·refine cF (by simp;omega) ?_
  refine WP.skip ?_
  simp -dsimp
  refine pT_ (pW_ (k:=1000) (n:=n) (xs:=xs) rfl (by omega)) ?_
  rintro⟨⟨g,c⟩,hnc,hcm⟩
  simp -dsimp[exA]
  repeat(first|apply wG|(apply wR;simp -dsimp)|refine aI ?_)
  refine k7_ aa_ rfl rfl rfl ?_
  have hnc:n≤c:=hnc
  have e1:IntKind.i64.wrap ((n:Int)+1)=(n:Int)+1:=IntWalk.i64_in _ (by omega)
  have e2:IntKind.i64.wrap ((n:Int)+1-i)=((n+1-i:Nat):Int):=by rw[IntWalk.i64_in _ (by omega)];omega
  have e3:i+(n+1-i)=n+1:=by omega
  have e4:IntKind.i64.wrap ((i:Int)+1)=((i+1:Nat):Int):=by rw[IntWalk.i64_in _ (by omega)];omega
  simp -dsimp[e1]
  by_cases hr:c<n+1
  ·refine cT (by simp[e1];omega) ?_
   repeat(first|apply wG|(apply wR;simp -dsimp[e1])|refine aI ?_)
   refine ay_ aa_ rfl rfl rfl (l:=0) (h:=i) rfl rfl rfl (by omega) (by omega) (by omega) ?_
   simp -dsimp[e1,e2]
   refine gz_ aa_ rfl 500 (k:=1000) (m:=n+1-i) rfl rfl rfl (by decide) rfl rfl (by simp;omega) (by omega) rfl (by omega) (by simp;omega) (by simp[Ex]) ?_
   simp -dsimp[e3]
   refine pT_ (pW_ (k:=500) (T:=82) (sz:=61) (n:=n+1) (xs:=xs.take (i*61)++List.replicate ((n+1-i)*61) D.any) (by simp) (by omega)) ?_
   rintro⟨⟨g2,c2⟩,hnc2,hcm2⟩
   have hnc2:n+1≤c2:=hnc2
   simp -dsimp[exA]
   repeat(first|apply wG|(apply wR;simp -dsimp)|refine aI ?_)
   refine ay_ aa_ rfl rfl rfl (l:=i) (h:=n+1) rfl rfl rfl (by omega) (by omega) (by omega) ?_
   simp -dsimp
   refine bi_ aa_ rfl rfl rfl (k:=500) rfl rfl (CpSrc.row (k:=1001) rfl rfl (by decide)) 1 (Nat.min_eq_left (by omega)) (by simp;omega) (by simp;omega) (by simp;omega) ?_
   simp -dsimp
   generalize hZ:List.take (i*61) (List.take (i*61) xs++List.replicate ((n+1-i)*61) D.any)++(List.take 61 ys++List.drop (i*61+61) (List.take (i*61) xs++List.replicate ((n+1-i)*61) D.any))=Z
   have hZl:Z.length=(n+1)*61:=by rw[← hZ];simp;omega
   have e5:Z.take ((i+1)*61)++((xs.drop (i*61)).take ((n-i)*61)++Z.drop ((i+1)*61+(n-i)*61))=pm_ i xs ys:=by
    rw[← List.append_assoc]
    exact sK_ D.any 61 n i xs ys hx hy (by omega) Z (by rw[← hZ,List.append_assoc])
   repeat(first|apply wG|(apply wR;simp -dsimp[e4])|refine aI ?_)
   refine ay_ aa_ rfl rfl rfl (l:=i+1) (h:=n+1) rfl rfl rfl (by omega) (by omega) (by omega) ?_
   simp -dsimp
   refine ay_ aa_ rfl rfl rfl (l:=i) (h:=n) rfl rfl rfl (by omega) (by omega) (by omega) ?_
   simp -dsimp
   refine bi_ aa_ rfl rfl rfl (k:=500) rfl rfl (kZ_ (k:=1000) rfl rfl) (n-i) (Nat.min_self _) (by simp;omega) (by omega) (by simp;omega) ?_
   simp -dsimp
   repeat(first|apply wG|(apply wR;simp -dsimp)|refine aI ?_)
   rw[e5]
   refine WP.ret (ak_ (S':=mkS 95 [(6,.row 0)] [(0,.row 82 61 (n+1) ((pm_ i xs ys).map .d))]) ((kP_ 6 500 0 (n+1) rfl (by omega) (by simp[pm_];omega) rfl (by simp[Ex])).trans (ae_ [1000,1001] (by simp) (by simp))) ?_)
   simp -dsimp
  ·refine cF (by simp[e1];omega) ?_
   refine WP.skip ?_
   repeat(first|apply wG|(apply wR;simp -dsimp[e1])|refine aI ?_)
   refine ay_ aa_ rfl rfl rfl (l:=0) (h:=n+1) rfl rfl (by simp[e9_,ph_]) (by omega) (by omega) (by omega) ?_
   simp -dsimp
   repeat(first|apply wG|(apply wR;simp -dsimp[e4])|refine aI ?_)
   refine ay_ aa_ rfl rfl rfl (l:=i+1) (h:=n+1) rfl rfl rfl (by omega) (by omega) (by omega) ?_
   simp -dsimp
   refine fg_ aa_ (T:=31) (R:=4) Tryz.func195 (by kernel_rfl) rfl (by kernel_rfl) (by kernel_rfl) rfl rfl rfl (by decide) (j:=1001) (k:=1000) (by decide) rfl rfl (by decide) rfl rfl (by omega) ?_
   simp -dsimp
   refine cT (by simp) ?_
   repeat(first|apply wG|(apply wR;simp -dsimp[e4])|refine aI ?_)
   refine ay_ aa_ rfl rfl rfl (l:=i+1) (h:=n+1) rfl rfl rfl (by omega) (by omega) (by omega) ?_
   simp -dsimp
   refine ay_ aa_ rfl rfl rfl (l:=i) (h:=n+1) rfl rfl rfl (by omega) (by omega) (by omega) ?_
   simp -dsimp
   refine bi_ aa_ rfl rfl rfl (k:=1000) rfl rfl (kZ_ (k:=1000) rfl rfl) (n-i) (Nat.min_eq_right (by omega)) (by simp;omega) (by omega) (by simp;omega) ?_
   simp -dsimp
   repeat(first|apply wG|(apply wR;simp -dsimp)|refine aI ?_)
   generalize hZ:List.take ((i+1)*61) xs++(List.take ((n-i)*61) (List.drop (i*61) xs)++List.drop ((i+1)*61+(n-i)*61) xs)=Z
   have hZl:Z.length=(n+1)*61:=by rw[← hZ];simp;omega
   have e5:Z.take (i*61)++(ys.take 61++Z.drop (i*61+61))=pm_ i xs ys:=by
    rw[← List.append_assoc,← hZ,← List.append_assoc]
    exact sJ_ 61 n i xs ys hx hy (by omega)
   refine ay_ aa_ rfl rfl rfl (l:=i) (h:=n+1) rfl rfl rfl (by omega) (by omega) (by omega) ?_
   simp -dsimp
   refine bi_ aa_ rfl rfl rfl (k:=1000) rfl rfl (CpSrc.row (k:=1001) rfl rfl (by decide)) 1 (Nat.min_eq_left (by omega)) (by simp;omega) (by omega) (by simp;omega) ?_
   simp -dsimp
   repeat(first|apply wG|(apply wR;simp -dsimp)|refine aI ?_)
   rw[e5]
   refine WP.ret (ak_ (S':=mkS 95 [(6,.row 0)] [(0,.row 82 61 (n+1) ((pm_ i xs ys).map .d))]) ((kP_ 6 1000 0 (n+1) rfl (by omega) (by simp[pm_];omega) rfl (by simp[Ex])).trans (ae_ [1001] (by simp) (by simp))) ?_)
   simp -dsimp
end Go.Proofs.YtfgcgagcpnbgmaaGreatDoor
