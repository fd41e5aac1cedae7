/-
  Evidence: where a signed fact stands among those of a place (binary search); a copy of them.
-/
import Derived.Test.YtfgcgagcpnbgmaaGreatDoorWJt
import Derived.Test.YtfgcgagcpnbgmaaGreatDoorWJk
import Derived.Test.YtfgcgagcpnbgmaaGreatDoorWJd
import Derived.Test.YtfgcgagcpnbgmaaGreatDoorWEngFz
set_option maxRecDepth 10000
set_option linter.unusedVariables false
set_option linter.unusedSimpArgs false
set_option linter.unusedSectionVars false
namespace Go.Proofs.YtfgcgagcpnbgmaaGreatDoor
open Go.Xe Go.RowKit
def sgc (p:Sg):List D:=fcs p.1 0 57++p.2
def sgV (p:Sg):D:=.agg (sgc p)
theorem aO_ {p:Sg} (h:b2_ p):(sgc p).length=61:=by rw[sgc,List.length_append,ar_,h.2.1]
theorem fW_ (p:Sg):List.take 57 ((sgc p).map AV.d)=(fcs p.1 0 57).map .d:=by
 rw[sgc,← List.map_take,List.take_append,ar_,List.take_of_length_le (by rw[ar_];omega)]
 simp
theorem wO_ (p:Sg):List.take 57 (sgc p)=fcs p.1 0 57:=by
 rw[sgc,List.take_append,ar_,List.take_of_length_le (by rw[ar_];omega)]
 simp
theorem fl_ {p:Sg} (hp:b2_ p):∀ c∈(sgc p).map AV.d,oneA c=true:=fun c h=>by
 obtain⟨d,hd,rfl⟩:=List.mem_map.1 h
 rcases List.mem_append.1 hd with hd|hd
 ·exact fcs_side hd
 ·exact hp.2.2 d hd
@[simp] theorem DP_ (p:Sg):Leq (.agg ((sgc p).map .d)) (.d (sgV p))↔True:=⟨fun _=>trivial,fun _=>am_ _⟩
@[simp] theorem CN_ (p:Sg):Leq (.agg ((sgc p).map .d)) (.d (.agg (sgc p)))↔True:=⟨fun _=>trivial,fun _=>am_ _⟩
theorem na_ {p:Sg} (h:b2_ p):List.take 61 (sgc p)=sgc p:=List.take_of_length_le (by rw[aO_ h];omega)
theorem d7_ {p:Sg} (h:b2_ p):List.take 61 ((sgc p).map AV.d)=(sgc p).map .d:=List.take_of_length_le (by rw[List.length_map,aO_ h];omega)
theorem d8_ {x:List Sg} {i:Nat} (hi:i<x.length) (h:∀ q∈x,b2_ q):((sgC x).drop (i*61)).take 61=sgc x[i]:=by
 have e:x=x.take i++x[i]::x.drop (i+1):=by
  rw[← List.drop_eq_getElem_cons hi,List.take_append_drop]
 have:=yW_ (l1:=x.take i) (p:=x[i]) (l2:=x.drop (i+1)) (by rw[← e];exact h)
 rw[← e,List.length_take,Nat.min_eq_left (by omega)] at this
 exact this
theorem sgc_oneD {p:Sg} (hp:b2_ p):∀ d∈sgc p,oneD d=true:=fun d hd=>by
 rcases List.mem_append.1 hd with hd|hd
 ·exact fcs_side hd
 ·exact hp.2.2 d hd
def posS (s:Sg) (x:List Sg):Nat:=(x.takeWhile fun t=>decide (er_ t.1 s.1<0)).length
def isS (s:Sg) (x:List Sg):Bool:=match x[posS s x]? with
 | some t=>decide (er_ t.1 s.1=0)
 | none=>false
theorem r6_ (s:Sg) (x:List Sg):posS s x≤x.length:=(List.takeWhile_sublist _).length_le
theorem dl_ (s t:Sg) (x:List Sg):posS s (t::x)=if er_ t.1 s.1<0 then posS s x+1 else 0:=by
 rw[posS,List.takeWhile_cons]
 by_cases h:er_ t.1 s.1<0
 ·rw[if_pos h,if_pos (by simp[h])];rfl
 ·rw[if_neg h,if_neg (by simp[h])];rfl
theorem r5_ (s:Sg):∀ (x:List Sg) (i:Nat) (hi:i<x.length),i<posS s x→er_ x[i].1 s.1<0
 | t::x,i,hi,h=>by
  rw[dl_] at h
  split at h
  ·rename_i hlt
   cases i with
   | zero=>exact hlt
   | succ i=>exact r5_ s x i (by simpa using hi) (by omega)
  ·omega
theorem r7_ (s:Sg):∀ {x:List Sg},BE_ x→∀ (i:Nat) (hi:i<x.length),posS s x≤i→¬ er_ x[i].1 s.1<0
 | t::x,ha,i,hi,h=>by
  obtain⟨h1,h2⟩:=List.pairwise_cons.1 ha
  rw[dl_] at h
  split at h
  ·rename_i hlt
   cases i with
   | zero=>omega
   | succ i=>exact r7_ s h2 i (by simpa using hi) (by omega)
  ·rename_i hnl
   cases i with
   | zero=>exact hnl
   | succ i=>exact fun k=>hnl (f2_ (h1 _ (List.getElem_mem (by simpa using hi))) k)
theorem pi_ (s:Sg):∀ x:List Sg,k1_ s x=if isS s x=true then x else x.take (posS s x)++s::x.drop (posS s x)
 | []=>rfl
 | t::x=>by
  have ih:=pi_ s x
  by_cases hlt:er_ t.1 s.1<0
  ·have e1:isS s (t::x)=isS s x:=by
    unfold isS
    rw[dl_,if_pos hlt,List.getElem?_cons_succ]
   rw[k1_,if_pos hlt,ih,e1,dl_,if_pos hlt]
   split<;>simp
  ·have e0:posS s (t::x)=0:=by rw[dl_,if_neg hlt]
   rw[k1_,if_neg hlt,e0]
   by_cases hz:er_ t.1 s.1=0
   ·rw[if_pos hz,if_pos (by unfold isS;rw[e0];simp[hz])]
   ·rw[if_neg hz,if_neg (by unfold isS;rw[e0];simp[hz])]
    rfl
theorem tq_ (p q:Sg) (hp:b2_ p) (hq:b2_ q):Fn0 Tryz.prog 134 [sgV p,sgV q] (.v (.int .i64 (er_ p.1 q.1))):=by
 have h1:=fW_ p
 have h2:=fW_ q
 have l1:=aO_ hp
 have l2:=aO_ hq
 have hc:=ib_ p.1 q.1 hp.1 hq.1
 refine ad_ (pn:=ap_) aa_ Tryz.func134 rfl fun β0=>?_
 simp only[Tryz.f134]
 simp only[sgV]
 repeat(first|apply wG|(apply wR;simp -dsimp[h1,h2,l1,l2])|refine aI ?_)
 refine And.intro (sgc_oneD hp) ?_
 refine And.intro (sgc_oneD hq) ?_
 repeat(first|apply wG|(apply wR;simp -dsimp[h1,h2,l1,l2])|refine aI ?_)
 refine ab_ my_ hc rfl rfl (by simp[fD]) ?_
 simp -dsimp
 repeat(first|apply wG|(apply wR;simp -dsimp)|refine aI ?_)
 refine WP.ret (ac_ ?_)
 simp -dsimp
theorem x1_ (x:List Sg) (b:Bool) (h0:0<x.length) (hl:x.length≤1000) (hx:∀ p∈x,b2_ p):Fun Tryz.prog 59 [.d (sgD x b)] [] (.row 0) [(0,.row 82 61 x.length ((sgC x).map .d))] fun _=>False:=by
 refine ad_ (pn:=ap_) aa_ Tryz.func59 rfl fun β0=>?_
 simp only[Tryz.f59]
 repeat(first|apply wG|(apply wR;simp -dsimp)|refine aI ?_)
 refine a7_ aa_ rfl rfl rfl rfl h0 ?_
 simp -dsimp
 repeat(first|apply wG|(apply wR;simp -dsimp)|refine aI ?_)
 refine cF (by simp) ?_
 refine WP.skip ?_
 simp -dsimp
 repeat(first|apply wG|(apply wR;simp -dsimp)|refine aI ?_)
 refine And.intro ⟨sgC_len hx,by omega⟩ ?_
 refine WP.ret (ak_ (S':=mkS 8 [(2,.row 0)] [(0,.row 82 61 x.length ((sgC x).map .d))]) (Wk.go [] 7 0 (by decide) (by simp) (by simp) (by simp)) ?_)
 simp -dsimp
theorem x2_:Fn0 Tryz.prog 59 [.v (.slice none 0 0)] (.v (.slice none 0 0)):=by
 refine ad_ (pn:=ap_) aa_ Tryz.func59 rfl fun β0=>?_
 simp only[Tryz.f59]
 repeat(first|apply wG|(apply wR;simp -dsimp)|refine aI ?_)
 refine bH_ aa_ rfl rfl rfl rfl ?_
 simp -dsimp
 repeat(first|apply wG|(apply wR;simp -dsimp)|refine aI ?_)
 refine cT (by simp) ?_
 repeat(first|apply wG|(apply wR;simp -dsimp)|refine aI ?_)
 refine WP.ret (ac_ ?_)
 simp -dsimp
abbrev Ad_:D:=.v (.func (.func 134) #[] #[])
abbrev bsS (x:List Sg) (b:Bool) (s:Sg) (i j:Nat):St:=mkS 49 [(0,.d (sgD x b)),(2,.d Ad_),(4,.ptr 4 0),(8,.d (.v (.int .i64 x.length))),(9,.d (.v (.int .i64 i))),(10,.d (.v (.int .i64 j)))] [(4,.cells 82 ((sgc s).map .d))]
theorem lk_ (x:List Sg) (b:Bool) (s:Sg) (hl:x.length≤1000) (hx:∀ p∈x,b2_ p) (hs:b2_ s) (ha:BE_ x):Fn0 Tryz.prog 133 [sgD x b,sgV s,Ad_] (.tup [.v (.int .i64 (posS s x)),.v (.bool (isS s x))]):=by
 have l2:=aO_ hs
 have hp:=r6_ s x
 refine ad_ (pn:=ap_) aa_ Tryz.func133 rfl fun β0=>?_
 simp only[Tryz.f133]
 simp only[sgV]
 repeat(first|apply wG|(apply wR;simp -dsimp[l2])|refine aI ?_)
 refine And.intro (sgc_oneD hs) ?_
 repeat(first|apply wG|(apply wR;simp -dsimp[l2])|refine aI ?_)
 refine ai_ (fun n S=>∃ i j,n=j-i∧i≤posS s x∧posS s x≤j∧j≤x.length∧S=bsS x b s i j) x.length (S0:=bsS x b s 0 x.length) (ae_ [] (by simp) (by simp)) ⟨0,x.length,rfl,by omega,hp,by omega,rfl⟩ ?_
 rintro _ _ ⟨i,j,rfl,hi,hj,hjl,rfl⟩
 simp -dsimp
 repeat(first|apply wG|(apply wR;simp -dsimp)|refine aI ?_)
 by_cases hij:i<j
 ·refine cT (by simp;omega) ?_
  refine WP.skip ?_
  obtain⟨h,hh⟩:∃ h,h=(i+j)/2:=⟨_,rfl⟩
  have hhx:h<x.length:=by omega
  have e0:IntKind.i64.wrap ((IntKind.u64.wrap (IntKind.i64.wrap ((i:Int)+j))).fdiv (2^shN IntKind.u64 1))=(h:Int):=by
   rw[IntWalk.i64_in ((i:Int)+j) (by omega),IntWalk.u64_in _ (by omega),show shN IntKind.u64 1=1 from rfl,Int.fdiv_eq_ediv_of_nonneg _ (by decide),IntWalk.i64_in _ (by omega)]
   omega
  have e1:IntKind.i64.wrap ((h:Int)+1)=((h+1:Nat):Int):=by rw[IntWalk.i64_in _ (by omega)];omega
  have hat:=d8_ hhx hx
  have hok:=hx x[h] (List.getElem_mem hhx)
  have lx:=aO_ hok
  have lc:=sgC_len hx
  have hmin:61≤(sgC x).length-h*61:=by omega
  simp -dsimp
  have ht:=na_ hok
  have hts:=d7_ hs
  repeat(first|apply wG|(apply wR;simp -dsimp[e0,hat,l2,ht,hts])|refine aI ?_)
  refine al_ gm_ (tq_ x[h] s hok hs) rfl rfl (by simp[sgV]) ?_
  simp -dsimp
  repeat(first|apply wG|(apply wR;simp -dsimp)|refine aI ?_)
  by_cases hlt:er_ x[h].1 s.1<0
  ·have hps:h<posS s x:=by
    rcases Nat.lt_or_ge h (posS s x) with k|k
    ·exact k
    ·exact absurd hlt (r7_ s ha h hhx k)
   refine cT (by simp[hlt]) ?_
   repeat(first|apply wG|(apply wR;simp -dsimp)|refine aI ?_)
   refine loopW.next (bsS x b s (h+1) j) (ae_ [] (by simp[e1]) (by simp)) (j-(h+1)) (by omega) ⟨h+1,j,rfl,by omega,by omega,by omega,rfl⟩
  ·have hps:posS s x≤h:=by
    rcases Nat.lt_or_ge h (posS s x) with k|k
    ·exact absurd (r5_ s x h hhx k) hlt
    ·exact k
   refine cF (by simp[hlt]) ?_
   repeat(first|apply wG|(apply wR;simp -dsimp)|refine aI ?_)
   refine loopW.next (bsS x b s i h) (ae_ [] (by simp) (by simp)) (h-i) (by omega) ⟨i,h,rfl,by omega,by omega,by omega,rfl⟩
 ·have hie:i=posS s x:=by omega
  have lc:=sgC_len hx
  refine cF (by simp;omega) ?_
  refine WP.exit ?_
  simp -dsimp
  by_cases hil:i<x.length
  ·have hat:=d8_ hil hx
   have hok:=hx x[i] (List.getElem_mem hil)
   have lx:=aO_ hok
   have ht:=na_ hok
   have hts:=d7_ hs
   have hiS:isS s x=decide (er_ x[i].1 s.1=0):=by
    unfold isS
    rw[← hie,List.getElem?_eq_getElem hil]
   repeat(first|apply wG|(apply wR;simp -dsimp[hat,l2,hil,ht,hts])|refine aI ?_)
   refine br_ gm_ (fun _=>tq_ x[i] s hok hs) rfl (fun _=>rfl) (fun _=>by simp[sgV]) ?_
   simp -dsimp
   repeat(first|apply wG|(apply wR;simp -dsimp)|refine aI ?_)
   refine WP.ret (ac_ ?_)
   simp -dsimp[hiS,hie]
  ·have hiS:isS s x=false:=by
    unfold isS
    rw[← hie,List.getElem?_eq_none (by omega)]
   repeat(first|apply wG|(apply wR;simp -dsimp[hil])|refine aI ?_)
   refine vcStopG.skip (.d (.v (.int .i64 0))) ?_
   simp -dsimp
   repeat(first|apply wG|(apply wR;simp -dsimp)|refine aI ?_)
   refine WP.ret (ac_ ?_)
   simp -dsimp[hiS,hie]
end Go.Proofs.YtfgcgagcpnbgmaaGreatDoor
