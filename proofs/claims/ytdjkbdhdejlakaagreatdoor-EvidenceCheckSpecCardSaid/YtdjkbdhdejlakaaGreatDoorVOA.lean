/-
  Joined texts.
-/
import Derived.Test.YtdjkbdhdejlakaaGreatDoorVM
import Derived.Test.YtdjkbdhdejlakaaGreatDoorVO
import Derived.Test.YtdjkbdhdejlakaaGreatDoorVC
set_option maxRecDepth 10000
set_option maxHeartbeats 4000000
set_option linter.unusedVariables false
set_option linter.unusedSimpArgs false
set_option linter.unusedSectionVars false
namespace Go.Proofs.YtdjkbdhdejlakaaGreatDoor
open Go.Xe Go.RowKit
def vfyL (l:List Crw):List Sg→Int
 | []=>0
 | p::x=>if wB_ l p=0 then vfyL l x else wB_ l p
def y0_ (l:List Crw) (x:List Sg):Int:=if crB l=true then vfyL l x else 130
def r4_:List Sg→Bool
 | []=>true
 | [_]=>true
 | a::b::l=>decide (cx_ a.1 b.1<0)&&r4_ (b::l)
def lchk (l:List Crw) (x:List Sg):Int :=
 if crB l=true then
  if 65536<x.length then 2
  else if y0_ l x=0 then (if r4_ x=true then 0 else 140) else y0_ l x
 else 130
theorem yd_ (p q:Sg) (hp:aL_ p) (hq:aL_ q):Fn0 Tryz.prog 34 [sgV p,sgV q] (.v (.int .i64 (cx_ p.1 q.1))):=by
 have h1:=b4_ p
 have h2:=b4_ q
 have l1:=az_ hp
 have l2:=az_ hq
 have hc:=d1_ p.1 q.1 hp.1 hq.1
 refine ac_ (pn:=ao_) aa_ Tryz.func34 rfl fun β0=>?_
 simp only[Tryz.f34]
 simp only[sgV]
 repeat(first|apply wG|(apply wR;simp -dsimp[h1,h2,l1,l2])|refine aI ?_)
 refine And.intro (sgc_oneD hp) ?_
 refine And.intro (sgc_oneD hq) ?_
 repeat(first|apply wG|(apply wR;simp -dsimp[h1,h2,l1,l2])|refine aI ?_)
 refine ad_ iM_ hc rfl rfl (by simp[fD]) ?_
 simp -dsimp
 repeat(first|apply wG|(apply wR;simp -dsimp)|refine aI ?_)
 refine WP.ret (ab_ ?_)
 simp -dsimp
abbrev vlS (l:List Crw) (x:List Sg) (b:Bool) (i:Nat):St:=mkS 27 [(0,.d (crwD l)),(14,.d (sgD x b)),(15,.d (.v (.int .i64 x.length))),(16,.d (.v (.int .i64 i)))] []
theorem qR_ (l:List Crw) (hl:∀ c∈l,gC_ c) (hn:l.length≤1000000000000) (x:List Sg) (b:Bool) (hx:∀ p∈x,fOk p.1∧sgT p) (hxn:x.length≤1000000000000):Fn0 Tryz.prog 33 [crwD l,sgD x b] (.v (.int .i64 (y0_ l x))):=by
 have h53:=dv_ l hl hn
 refine ac_ (pn:=ao_) aa_ Tryz.func33 rfl fun β0=>?_
 simp only[Tryz.f33]
 repeat(first|apply wG|(apply wR;simp -dsimp[crwD])|refine aI ?_)
 refine ad_ bg_ h53 rfl rfl (by simp[crwD]) ?_
 simp -dsimp
 repeat(first|apply wG|(apply wR;simp -dsimp)|refine aI ?_)
 rw[y0_]
 by_cases hc:crB l=true
 ·rw[if_pos hc]
  refine cF (by simp[hc]) ?_
  refine WP.skip ?_
  simp -dsimp
  repeat(first|apply wG|(apply wR;simp -dsimp)|refine aI ?_)
  refine ak_ (fun m S=>∃ x1 x2,x=x1++x2∧m=x2.length∧vfyL l x=vfyL l x2∧S=vlS l x b x1.length) x.length (S0:=vlS l x b 0) (ae_ [] (by simp[crwD]) (by simp)) ⟨[],x,rfl,rfl,rfl,rfl⟩ ?_
  rintro _ _ ⟨x1,x2,hx12,rfl,hv,rfl⟩
  simp -dsimp[crwD]
  repeat(first|apply wG|(apply wR;simp -dsimp)|refine aI ?_)
  rw[hv]
  cases x2 with
  | nil =>
   simp only[List.append_nil] at hx12
   subst hx12
   refine cF (by simp) ?_
   refine WP.exit ?_
   simp -dsimp
   repeat(first|apply wG|(apply wR;simp -dsimp)|refine aI ?_)
   refine WP.ret (ab_ ?_)
   simp -dsimp[vfyL]
  | cons p x2 =>
   have hll:x.length=x1.length+(x2.length+1):=by rw[hx12];simp
   have hlt:x1.length<x.length:=by omega
   have hp:=hx p (by rw[hx12];simp)
   have hpo:=jA_ hp.1 hp.2
   have hxo:∀ q∈x,aL_ q:=fun q hq=>jA_ (hx q hq).1 (hx q hq).2
   have hat:=bl_ hlt hxo
   have hpe:x[x1.length]=p:=by simp[hx12]
   rw[hpe] at hat
   have lc:=sgC_len hxo
   have lp:=az_ hpo
   have tp:=er_ hpo
   have tm:=dQ_ hpo
   have hver:=k6_ l hl hn p hp.1 hp.2
   have e1:IntKind.i64.wrap ((x1.length:Int)+1)=(x1.length:Int)+1:=IntWalk.i64_in _ (by omega)
   refine cT (by simp;omega) ?_
   refine WP.skip ?_
   simp -dsimp
   repeat(first|apply wG|(apply wR;simp -dsimp[hat,lp,tp,tm])|refine aI ?_)
   refine And.intro (fun a h=>sgc_oneD hpo a h) ?_
   repeat(first|apply wG|(apply wR;simp -dsimp[lp,tp,tm])|refine aI ?_)
   refine af_ iN_ hver rfl rfl (And.intro (by simp[crwD]) (And.intro (by simp[tm];try exact ag_ _) trivial)) ?_
   simp -dsimp
   repeat(first|apply wG|(apply wR;simp -dsimp)|refine aI ?_)
   rw[vfyL]
   by_cases hz:wB_ l p=0
   ·rw[if_pos hz]
    refine cF (by simp[hz]) ?_
    refine WP.skip ?_
    simp -dsimp
    repeat(first|apply wG|(apply wR;simp -dsimp)|refine aI ?_)
    refine loopW.next (vlS l x b (x1++[p]).length) (ae_ [] (by simp[crwD,e1]) (by simp)) x2.length (by simp) ⟨x1++[p],x2,by simp[hx12],rfl,by first|rfl|simp[vfyL,hz],rfl⟩
   ·rw[if_neg hz]
    refine cT (by simp[hz]) ?_
    repeat(first|apply wG|(apply wR;simp -dsimp)|refine aI ?_)
    refine WP.ret (ab_ ?_)
    simp -dsimp
 ·rw[if_neg hc]
  refine cT (by simp[hc]) ?_
  repeat(first|apply wG|(apply wR;simp -dsimp)|refine aI ?_)
  refine WP.ret (ab_ ?_)
  simp -dsimp[hc]
theorem uf_ {x:List Sg} {i:Nat} (h1:1≤i) (h:i<x.length):r4_ (x.drop (i-1))=(decide (cx_ (x[i-1]'(by omega)).1 x[i].1<0)&&r4_ (x.drop i)):=by
 rw[List.drop_eq_getElem_cons (by omega:i-1<x.length),show i-1+1=i by omega,List.drop_eq_getElem_cons h,r4_]
theorem jZ_ {x:List Sg} {i:Nat} (h:x.length≤i):r4_ (x.drop (i-1))=true:=by
 cases e:x.drop (i-1) with
 | nil=>rfl
 | cons a l =>
  have hl:=congrArg List.length e
  rw[List.length_drop,List.length_cons] at hl
  have:l=[]:=List.eq_nil_of_length_eq_zero (by omega)
  subst this
  rfl
abbrev lcS (x:List Sg) (b:Bool) (i:Nat):St:=mkS 44 [(3,.ptr 3 0),(7,.d (.v (.int .i64 i)))] [(3,.cells 25 [.d (sgD x b)])]
theorem eF_ (l:List Crw) (hl:∀ c∈l,gC_ c) (hn:l.length≤1000000000000) (x:List Sg) (b:Bool) (hx:∀ p∈x,fOk p.1∧sgT p) (hxn:x.length≤1000000000000):Fn0 Tryz.prog 16 [crwD l,lgD x b] (.v (.int .i64 (lchk l x))):=by
 have h53:=dv_ l hl hn
 have h54:=qR_ l hl hn x b hx hxn
 have w1:IntKind.i64.wrap 1=1:=by decide
 refine ac_ (pn:=ao_) aa_ Tryz.func16 rfl fun β0=>?_
 simp only[Tryz.f16]
 repeat(first|apply wG|(apply wR;simp -dsimp[crwD])|refine aI ?_)
 refine ad_ bg_ h53 rfl rfl (by simp[crwD]) ?_
 simp -dsimp
 repeat(first|apply wG|(apply wR;simp -dsimp)|refine aI ?_)
 rw[lchk]
 by_cases hc:crB l=true
 ·rw[if_pos hc]
  refine cF (by simp[hc]) ?_
  refine WP.skip ?_
  simp -dsimp
  repeat(first|apply wG|(apply wR;simp -dsimp)|refine aI ?_)
  by_cases hb:65536<x.length
  ·rw[if_pos hb]
   refine cT (by simp;omega) ?_
   repeat(first|apply wG|(apply wR;simp -dsimp)|refine aI ?_)
   refine WP.ret (ab_ ?_)
   simp -dsimp
  ·rw[if_neg hb]
   refine cF (by simp;omega) ?_
   refine WP.skip ?_
   simp -dsimp
   repeat(first|apply wG|(apply wR;simp -dsimp[crwD])|refine aI ?_)
   refine af_ e5_ h54 rfl rfl (And.intro (by simp[crwD]) (And.intro (.refl _) trivial)) ?_
   simp -dsimp
   repeat(first|apply wG|(apply wR;simp -dsimp)|refine aI ?_)
   by_cases hv:y0_ l x=0
   ·rw[if_pos hv]
    refine cF (by simp[hv]) ?_
    refine WP.skip ?_
    simp -dsimp
    repeat(first|apply wG|(apply wR;simp -dsimp)|refine aI ?_)
    refine ak_ (fun m S=>∃ i:Nat,1≤i∧m=x.length-i∧i≤max 1 x.length∧r4_ x=r4_ (x.drop (i-1))∧S=lcS x b i) (x.length-1) (S0:=lcS x b 1) (ae_ [] (by simp) (by simp)) ⟨1,Nat.le_refl _,rfl,by omega,rfl,rfl⟩ ?_
    rintro _ _ ⟨i,hi1,rfl,hi2,ha,rfl⟩
    rw[ha]
    simp -dsimp
    repeat(first|apply wG|(apply wR;simp -dsimp)|refine aI ?_)
    by_cases hil:i<x.length
    ·have hxo:∀ q∈x,aL_ q:=fun q hq=>jA_ (hx q hq).1 (hx q hq).2
     have has:=uf_ hi1 hil
     have a0:=bl_ (i:=i-1) (by omega) hxo
     have a1:=bl_ hil hxo
     have o0:=hxo _ (List.getElem_mem (by omega:i-1<x.length))
     have o1:=hxo _ (List.getElem_mem hil)
     generalize x[i-1]'(by omega)=p at *
     generalize x[i]=q at *
     have lc:=sgC_len hxo
     have lp:=az_ o0
     have lq:=az_ o1
     have tp:=er_ o0
     have tq:=er_ o1
     have mp:=dQ_ o0
     have mq:=dQ_ o1
     have e1:IntKind.i64.wrap ((i:Int)+1)=((i+1:Nat):Int):=by rw[IntWalk.i64_in _ (by omega)];omega
     have e2:IntKind.i64.wrap ((i:Int)-1)=((i-1:Nat):Int):=by rw[IntWalk.i64_in _ (by omega)];omega
     have hcm:=yd_ p q o0 o1
     refine cT (by simp;omega) ?_
     refine WP.skip ?_
     simp -dsimp
     repeat(first|apply wG|(apply wR;simp -dsimp[e2,a0,a1,tp,tq,lp,lq])|refine aI ?_)
     refine af_ pa_ hcm rfl rfl (And.intro (by simp[mp,tp,sgV];try exact ag_ _) (And.intro (by simp[mq,tq,sgV];try exact ag_ _) trivial)) ?_
     simp -dsimp
     repeat(first|apply wG|(apply wR;simp -dsimp)|refine aI ?_)
     rw[has]
     by_cases hz:cx_ p.1 q.1<0
     ·refine cF (by simp;omega) ?_
      refine WP.skip ?_
      simp -dsimp
      repeat(first|apply wG|(apply wR;simp -dsimp)|refine aI ?_)
      have hd:decide (cx_ p.1 q.1<0)=true:=decide_eq_true hz
      refine loopW.next (lcS x b (i+1)) (ae_ [] (by simp[e1]) (by simp)) (x.length-(i+1)) (by omega) ⟨i+1,by omega,rfl,by omega,by rw[hd];simp,rfl⟩
     ·have hd:decide (cx_ p.1 q.1<0)=false:=decide_eq_false hz
      refine cT (by simp;omega) ?_
      repeat(first|apply wG|(apply wR;simp -dsimp)|refine aI ?_)
      refine WP.ret (ab_ ?_)
      simp -dsimp[hd]
    ·rw[jZ_ (by omega)]
     refine cF (by simp;omega) ?_
     refine WP.exit ?_
     simp -dsimp
     repeat(first|apply wG|(apply wR;simp -dsimp)|refine aI ?_)
     refine WP.ret (ab_ ?_)
     simp -dsimp
   ·rw[if_neg hv]
    refine cT (by simp[hv]) ?_
    repeat(first|apply wG|(apply wR;simp -dsimp)|refine aI ?_)
    refine WP.ret (ab_ ?_)
    simp -dsimp
 ·rw[if_neg hc]
  refine cT (by simp[hc]) ?_
  repeat(first|apply wG|(apply wR;simp -dsimp)|refine aI ?_)
  refine WP.ret (ab_ ?_)
  simp -dsimp[hc]
end Go.Proofs.YtdjkbdhdejlakaaGreatDoor
