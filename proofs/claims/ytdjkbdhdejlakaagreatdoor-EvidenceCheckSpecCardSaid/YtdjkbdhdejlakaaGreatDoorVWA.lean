/-
  Ledgers: the reference's verified, ordered, Check.
-/
import Derived.Test.YtdjkbdhdejlakaaGreatDoorVTP
import Derived.Test.YtdjkbdhdejlakaaGreatDoorVOA
import Derived.Test.YtdjkbdhdejlakaaGreatDoorVZV
set_option maxRecDepth 10000
set_option maxHeartbeats 4000000
set_option linter.unusedVariables false
set_option linter.unusedSimpArgs false
set_option linter.unusedSectionVars false
namespace Go.Proofs.YtdjkbdhdejlakaaGreatDoor
open Go.Xe Go.RowKit
abbrev vdS (l:List Crw) (x:List Sg) (b:Bool) (i:Nat):St:=mkS 22 [(0,.d (crwD l)),(1,.d (sgD x b)),(5,.d (.v (.int .i64 i)))] []
theorem jb_ (l:List Crw) (hl:∀ c∈l,gC_ c) (hn:l.length≤1000000000000) (x:List Sg) (b:Bool) (hx:∀ p∈x,fOk p.1∧sgT p) (hxn:x.length≤1000000000000):Fn0 Tryz.prog 36 [crwD l,sgD x b] (.v (.int .i64 (vfyL l x))):=by
 refine ac_ (pn:=ao_) aa_ Tryz.func36 rfl fun β0=>?_
 simp only[Tryz.f36]
 repeat(first|apply wG|(apply wR;simp -dsimp[crwD])|refine aI ?_)
 refine ak_ (fun m S=>∃ x1 x2,x=x1++x2∧m=x2.length∧vfyL l x=vfyL l x2∧S=vdS l x b x1.length) x.length (S0:=vdS l x b 0) (ae_ [] (by simp[crwD]) (by simp)) ⟨[],x,rfl,rfl,rfl,rfl⟩ ?_
 rintro _ _ ⟨x1,x2,hx12,rfl,hv,rfl⟩
 simp -dsimp[crwD]
 repeat(first|apply wG|(apply wR;simp -dsimp)|refine aI ?_)
 rw[hv]
 cases x2 with
 | nil =>
  simp only[List.append_nil] at hx12
  subst hx12
  refine cF (by simp) ?_
  refine WP.exit ?_
  simp -dsimp
  repeat(first|apply wG|(apply wR;simp -dsimp)|refine aI ?_)
  refine WP.ret (ab_ ?_)
  simp -dsimp[vfyL]
 | cons p x2 =>
  have hll:x.length=x1.length+(x2.length+1):=by rw[hx12];simp
  have hlt:x1.length<x.length:=by omega
  have hp:=hx p (by rw[hx12];simp)
  have hpo:=jA_ hp.1 hp.2
  have hxo:∀ q∈x,aL_ q:=fun q hq=>jA_ (hx q hq).1 (hx q hq).2
  have hat:=bl_ hlt hxo
  have hpe:x[x1.length]=p:=by simp[hx12]
  rw[hpe] at hat
  have lc:=sgC_len hxo
  have lp:=az_ hpo
  have tp:=er_ hpo
  have tm:=dQ_ hpo
  have hver:=kk_ l hl hn p hp.1 hp.2
  have e1:IntKind.i64.wrap ((x1.length:Int)+1)=(x1.length:Int)+1:=IntWalk.i64_in _ (by omega)
  refine cT (by simp;omega) ?_
  refine WP.skip ?_
  simp -dsimp
  repeat(first|apply wG|(apply wR;simp -dsimp[hat,lp,tp,tm])|refine aI ?_)
  refine af_ oS_ hver rfl rfl (And.intro (by simp[crwD]) (And.intro (by simp[tm,tp,sgV];try exact ag_ _) trivial)) ?_
  simp -dsimp
  repeat(first|apply wG|(apply wR;simp -dsimp)|refine aI ?_)
  rw[vfyL]
  by_cases hz:wB_ l p=0
  ·rw[if_pos hz]
   refine cF (by simp[hz]) ?_
   refine WP.skip ?_
   simp -dsimp
   repeat(first|apply wG|(apply wR;simp -dsimp)|refine aI ?_)
   refine loopW.next (vdS l x b (x1++[p]).length) (ae_ [] (by simp[crwD,e1]) (by simp)) x2.length (by simp) ⟨x1++[p],x2,by simp[hx12],rfl,by first|rfl|simp[vfyL,hz],rfl⟩
  ·rw[if_neg hz]
   refine cT (by simp[hz]) ?_
   repeat(first|apply wG|(apply wR;simp -dsimp)|refine aI ?_)
   refine WP.ret (ab_ ?_)
   simp -dsimp
abbrev orS (x:List Sg) (b:Bool) (i:Nat):St:=mkS 23 [(0,.d (sgD x b)),(3,.d (.v (.int .i64 i)))] []
theorem kn_ (x:List Sg) (b:Bool) (hxo:∀ q∈x,aL_ q) (hxn:x.length≤1000000000000):Fn0 Tryz.prog 37 [sgD x b] (.v (.bool (r4_ x))):=by
 have w1:IntKind.i64.wrap 1=1:=by decide
 refine ac_ (pn:=ao_) aa_ Tryz.func37 rfl fun β0=>?_
 simp only[Tryz.f37]
 repeat(first|apply wG|(apply wR;simp -dsimp)|refine aI ?_)
 refine ak_ (fun m S=>∃ i:Nat,1≤i∧m=x.length-i∧i≤max 1 x.length∧r4_ x=r4_ (x.drop (i-1))∧S=orS x b i) (x.length-1) (S0:=orS x b 1) (ae_ [] (by simp) (by simp)) ⟨1,Nat.le_refl _,rfl,by omega,rfl,rfl⟩ ?_
 rintro _ _ ⟨i,hi1,rfl,hi2,ha,rfl⟩
 rw[ha]
 simp -dsimp
 repeat(first|apply wG|(apply wR;simp -dsimp)|refine aI ?_)
 by_cases hil:i<x.length
 ·have has:=uf_ hi1 hil
  have a0:=bl_ (i:=i-1) (by omega) hxo
  have a1:=bl_ hil hxo
  have o0:=hxo _ (List.getElem_mem (by omega:i-1<x.length))
  have o1:=hxo _ (List.getElem_mem hil)
  generalize x[i-1]'(by omega)=p at *
  generalize x[i]=q at *
  have lc:=sgC_len hxo
  have lp:=az_ o0
  have lq:=az_ o1
  have p57:=b4_ p
  have q57:=b4_ q
  have p57D:=dh_ p
  have q57D:=dh_ q
  have hi0:i-1<x.length:=by omega
  have e1:IntKind.i64.wrap ((i:Int)+1)=((i+1:Nat):Int):=by rw[IntWalk.i64_in _ (by omega)];omega
  have e2:IntKind.i64.wrap ((i:Int)-1)=((i-1:Nat):Int):=by rw[IntWalk.i64_in _ (by omega)];omega
  have hcm:=fq_ p.1 q.1 o0.1 o1.1
  rw[l2_ o0.1 o1.1] at hcm
  refine cT (by simp;omega) ?_
  refine WP.skip ?_
  simp -dsimp
  repeat(first|apply wG|(apply wR;simp -dsimp[e2,a0,a1,p57,q57,p57D,q57D,lp,lq,hi0,hil])|refine aI ?_)
  refine af_ iL_ hcm rfl rfl (And.intro (by simp[fD];try exact ag_ _) (And.intro (by simp[fD];try exact ag_ _) trivial)) ?_
  simp -dsimp
  repeat(first|apply wG|(apply wR;simp -dsimp)|refine aI ?_)
  rw[has]
  by_cases hz:cx_ p.1 q.1<0
  ·refine cF (by simp;omega) ?_
   refine WP.skip ?_
   simp -dsimp
   repeat(first|apply wG|(apply wR;simp -dsimp)|refine aI ?_)
   have hd:decide (cx_ p.1 q.1<0)=true:=decide_eq_true hz
   refine loopW.next (orS x b (i+1)) (ae_ [] (by simp[e1]) (by simp)) (x.length-(i+1)) (by omega) ⟨i+1,by omega,rfl,by omega,by rw[hd];simp,rfl⟩
  ·have hd:decide (cx_ p.1 q.1<0)=false:=decide_eq_false hz
   refine cT (by simp;omega) ?_
   repeat(first|apply wG|(apply wR;simp -dsimp)|refine aI ?_)
   refine WP.ret (ab_ ?_)
   simp -dsimp[hd]
 ·rw[jZ_ (by omega)]
  refine cF (by simp;omega) ?_
  refine WP.exit ?_
  simp -dsimp
  repeat(first|apply wG|(apply wR;simp -dsimp)|refine aI ?_)
  refine WP.ret (ab_ ?_)
  simp -dsimp
theorem fr_ (l:List Crw) (hl:∀ c∈l,gC_ c) (hn:l.length≤1000000000000) (x:List Sg) (b:Bool) (hx:∀ p∈x,fOk p.1∧sgT p) (hxn:x.length≤1000000000000):Fn0 Tryz.prog 17 [crwD l,lgD x b] (.v (.int .i64 (lchk l x))):=by
 have h34:=hV_ l hl hn
 have h60:=jb_ l hl hn x b hx hxn
 have h63:=kn_ x b (fun q hq=>jA_ (hx q hq).1 (hx q hq).2) hxn
 refine ac_ (pn:=ao_) aa_ Tryz.func17 rfl fun β0=>?_
 simp only[Tryz.f17]
 repeat(first|apply wG|(apply wR;simp -dsimp[crwD])|refine aI ?_)
 refine ad_ iP_ h34 rfl rfl (by simp[crwD]) ?_
 simp -dsimp
 repeat(first|apply wG|(apply wR;simp -dsimp)|refine aI ?_)
 rw[lchk,y0_]
 by_cases hc:crB l=true
 ·rw[if_pos hc,if_pos hc]
  refine cF (by simp[hc]) ?_
  refine WP.skip ?_
  simp -dsimp
  repeat(first|apply wG|(apply wR;simp -dsimp)|refine aI ?_)
  by_cases hb:65536<x.length
  ·rw[if_pos hb]
   refine cT (by simp;omega) ?_
   repeat(first|apply wG|(apply wR;simp -dsimp)|refine aI ?_)
   refine WP.ret (ab_ ?_)
   simp -dsimp
  ·rw[if_neg hb]
   refine cF (by simp;omega) ?_
   refine WP.skip ?_
   simp -dsimp
   repeat(first|apply wG|(apply wR;simp -dsimp[crwD])|refine aI ?_)
   refine af_ o9_ h60 rfl rfl (And.intro (by simp[crwD]) (And.intro (.refl _) trivial)) ?_
   simp -dsimp
   repeat(first|apply wG|(apply wR;simp -dsimp)|refine aI ?_)
   by_cases hv:vfyL l x=0
   ·rw[if_pos hv]
    refine cF (by simp[hv]) ?_
    refine WP.skip ?_
    simp -dsimp
    repeat(first|apply wG|(apply wR;simp -dsimp)|refine aI ?_)
    refine af_ o8_ h63 rfl rfl (And.intro (.refl _) trivial) ?_
    simp -dsimp
    repeat(first|apply wG|(apply wR;simp -dsimp)|refine aI ?_)
    cases ha:r4_ x with
    | true =>
     refine cF (by simp[ha]) ?_
     refine WP.skip ?_
     simp -dsimp
     repeat(first|apply wG|(apply wR;simp -dsimp)|refine aI ?_)
     refine WP.ret (ab_ ?_)
     simp -dsimp
    | false =>
     refine cT (by simp[ha]) ?_
     repeat(first|apply wG|(apply wR;simp -dsimp)|refine aI ?_)
     refine WP.ret (ab_ ?_)
     simp -dsimp
   ·rw[if_neg hv]
    refine cT (by simp[hv]) ?_
    repeat(first|apply wG|(apply wR;simp -dsimp)|refine aI ?_)
    refine WP.ret (ab_ ?_)
    simp -dsimp
 ·rw[if_neg hc]
  refine cT (by simp[hc]) ?_
  repeat(first|apply wG|(apply wR;simp -dsimp)|refine aI ?_)
  refine WP.ret (ab_ ?_)
  simp -dsimp[hc]
end Go.Proofs.YtdjkbdhdejlakaaGreatDoor
