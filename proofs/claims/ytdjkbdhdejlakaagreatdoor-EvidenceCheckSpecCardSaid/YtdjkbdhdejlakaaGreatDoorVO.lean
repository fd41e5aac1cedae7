/-
  Joined texts.
-/
import Derived.Test.YtdjkbdhdejlakaaGreatDoorV0
import Derived.Test.YtdjkbdhdejlakaaGreatDoorV9
import Derived.Test.YtdjkbdhdejlakaaGreatDoorVG
import Derived.Test.YtdjkbdhdejlakaaGreatDoorVM
import Derived.Test.YtdjkbdhdejlakaaGreatDoorVN
set_option linter.unusedVariables false
set_option linter.unusedSimpArgs false
set_option linter.unusedSectionVars false
namespace Go.Proofs.YtdjkbdhdejlakaaGreatDoor
open Go.Xe Go.RowKit
theorem AO_ (f:List Bool) (i:Nat) (h:i<f.length):((boD f)[i]?).getD D.any=.v (.bool (f.getD i false)):=by
 simp[boD,List.getD_eq_getElem?_getD,h]
end Go.Proofs.YtdjkbdhdejlakaaGreatDoor
namespace Go.Proofs.YtdjkbdhdejlakaaGreatDoor
open Go.Xe Go.RowKit
def sc_ (c:List D) (n:Nat):List Dg:=(List.range n).map fun i=>((c.drop (i*32)).take 32).map zq_
theorem hH_ {l:List Dg} (h:bf_ l):sc_ (dgL l) l.length=l:=by
 refine v5_ (by simp[sc_]) fun i hi=>?_
 have hi:i<l.length:=by simpa [sc_] using hi
 rw[digA,List.getD_eq_getElem?_getD,sc_,List.getElem?_map,List.getElem?_range hi,Option.map_some,Option.getD_some,gB_ h i hi]
 exact vn_ _
def sgK (s:List D):Int:=match s with
 | .v (.int _ k)::_=>k
 | _=>0
def Ci_ (s:List D) (i:Nat):List Dg:=match s[i]? with
 | some (.sl _ c n _)=>sc_ c n
 | _=>[]
def sgT (p:Sg):Prop:=∃ k op cl pa,p.2=sigC k op cl pa∧sigG k op cl pa
def wB_ (l:List Crw) (p:Sg):Int:=yZ_ l p.1 (sgK p.2) (Ci_ p.2 1) (Ci_ p.2 2) (Ci_ p.2 3)
theorem r9_ {l:List Crw} {p:Sg} {k:Int} {op cl pa:List Dg} (e:p.2=sigC k op cl pa) (h:sigG k op cl pa):wB_ l p=yZ_ l p.1 k op cl pa:=by
 rw[wB_,e]
 simp only[sigC,slG,sgK,Ci_,List.getElem?_cons_succ,List.getElem?_cons_zero]
 rw[hH_ h.ho,hH_ h.hc,hH_ h.hp]
theorem k6_ (l:List Crw) (hl:∀ c∈l,gC_ c) (hn:l.length≤1000000000000) (p:Sg) (hf:fOk p.1) (hp:sgT p):Fn0 Tryz.prog 60 [crwD l,sgV p] (.v (.int .i64 (wB_ l p))):=by
 obtain⟨k,op,cl,pa,e,h⟩:=hp
 rw[r9_ e h,sgV,sgc,e]
 exact mB_ l hl hn p.1 hf k op cl pa h
theorem jA_ {p:Sg} (hf:fOk p.1) (h:sgT p):aL_ p:=by
 obtain⟨k,op,cl,pa,e,_⟩:=h
 refine⟨hf,by rw[e];rfl,fun d hd=>?_⟩
 rw[e] at hd
 exact fk_ hd
def EK_ (p:Sg):Prop:=∃ (k:Int) (s1 n1 s2 n2 s3 n3:Nat) (c1 c2 c3:List D),isI k∧p.2=[.v (.int .i64 k),.sl s1 c1 n1 false,.sl s2 c2 n2 false,.sl s3 c3 n3 false]
def uW_ (p:Sg):Bool:=match p.2 with
 | [_,.sl _ _ n1 _,.sl _ _ n2 _,.sl _ _ n3 _]=>decide (n1≤100)&&(decide (n2≤100)&&decide (n3≤20))
 | _=>false
def sgU (p:Sg):Prop:=∃ k op cl pa,p.2=sigC k op cl pa∧isI k∧bf_ op∧bf_ cl∧bf_ pa
theorem zv_ {p:Sg} (h:sgU p):EK_ p:=by
 obtain⟨k,op,cl,pa,e,h,_⟩:=h
 exact⟨k,32,op.length,32,cl.length,32,pa.length,dgL op,dgL cl,dgL pa,h,e⟩
theorem zu_ {p:Sg} (h:sgU p) (hs:uW_ p=true):sgT p:=by
 obtain⟨k,op,cl,pa,e,h,h1,h2,h3⟩:=h
 have hh:uW_ p=(decide (op.length≤100)&&(decide (cl.length≤100)&&decide (pa.length≤20))):=by rw[uW_,e];rfl
 rw[hh] at hs
 simp only[Bool.and_eq_true,decide_eq_true_eq] at hs
 exact⟨k,op,cl,pa,e,h,h1,h2,h3,by omega,by omega,by omega⟩
end Go.Proofs.YtdjkbdhdejlakaaGreatDoor
set_option linter.unusedVariables false
set_option linter.unusedSimpArgs false
set_option linter.unusedSectionVars false
namespace Go.Proofs.YtdjkbdhdejlakaaGreatDoor
open Go.Xe Go.RowKit
theorem hS_ {x:List R2} {i:Nat} (hi:i<x.length):List.take 2 (List.drop (i*2) (rfC x))=[.v (.int .i64 x[i].1),.v (.int .i64 x[i].2)]:=by
 have e:x=x.take i++x[i]::x.drop (i+1):=by
  rw[← List.drop_eq_getElem_cons hi,List.take_append_drop]
 have h2:rfC x=rfC (x.take i)++([.v (.int .i64 x[i].1),.v (.int .i64 x[i].2)]++rfC (x.drop (i+1))):=by
  conv=>lhs;rw[e]
  rw[c0_]
  rfl
 rw[h2,List.drop_left' (by rw[cp_,List.length_take];omega)]
 rfl
abbrev smS (x y:List R2) (i:Nat):St:=mkS 26 [(0,.d (slR x)),(1,.d (slR y)),(5,.d (.v (.int .i64 i)))] []
set_option maxRecDepth 10000 in
theorem pC_ (x y:List R2) (hx:∀ r∈x,isI r.1∧isI r.2) (hy:∀ r∈y,isI r.1∧isI r.2) (hn:x.length≤100000):Fn0 Tryz.prog 12 [slR x,slR y] (.v (.bool (decide (x=y)))):=by
 refine ac_ (pn:=ao_) aa_ Tryz.func12 rfl fun β0=>?_
 simp only[Tryz.f12]
 repeat(first|apply wG|(apply wR;simp -dsimp)|refine aI ?_)
 by_cases hl:x.length=y.length
 ·refine cF (by simp[hl]) ?_
  refine WP.skip ?_
  simp -dsimp
  repeat(first|apply wG|(apply wR;simp -dsimp)|refine aI ?_)
  refine ak_ (fun m S=>∃ i,m=x.length-i∧i≤x.length∧x.take i=y.take i∧S=smS x y i) x.length (S0:=smS x y 0) (ae_ [] (by simp) (by simp)) ⟨0,rfl,by omega,rfl,rfl⟩ ?_
  rintro m _ ⟨i,rfl,hi,ht,rfl⟩
  simp -dsimp
  repeat(first|apply wG|(apply wR;simp -dsimp)|refine aI ?_)
  by_cases hil:i<x.length
  ·have hiy:i<y.length:=by omega
   have h1:=hS_ hil
   have h2:=hS_ hiy
   obtain⟨x1,x2⟩:=hx x[i] (List.getElem_mem hil)
   obtain⟨y1,y2⟩:=hy y[i] (List.getElem_mem hiy)
   have lx:=cp_ x
   have ly:=cp_ y
   have ex:x.take (i+1)=x.take i++[x[i]]:=by rw[List.take_add_one,List.getElem?_eq_getElem hil];rfl
   have ey:y.take (i+1)=y.take i++[y[i]]:=by rw[List.take_add_one,List.getElem?_eq_getElem hiy];rfl
   have e1:IntKind.i64.wrap ((i:Int)+1)=((i+1:Nat):Int):=by rw[IntWalk.i64_in _ (by omega)];omega
   generalize hxa:x[i]=a at h1 x1 x2 ex
   generalize hyb:y[i]=b at h2 y1 y2 ey
   refine cT (by simp;omega) ?_
   refine WP.skip ?_
   simp -dsimp
   repeat(first|apply wG|(apply wR;simp -dsimp[h1,h2])|refine aI ?_)
   refine bq_ aa_ qd_ cH_ rfl (.inr rfl) (m:=5) (by omega) bv_ (by decide) bN_ nG_ (cs:=[.v (.int .i64 a.1),.v (.int .i64 a.2)]) (es:=[.v (.int .i64 b.1),.v (.int .i64 b.2)]) (.refl _) (.refl _) (bB_ x1 x2) (bB_ y1 y2) (di_ a b) ?_
   simp -dsimp
   repeat(first|apply wG|(apply wR;simp -dsimp)|refine aI ?_)
   by_cases hab:a=b
   ·refine cF (by simp[eqRes,hab]) ?_
    refine WP.skip ?_
    simp -dsimp
    repeat(first|apply wG|(apply wR;simp -dsimp)|refine aI ?_)
    refine loopW.next (smS x y (i+1)) (ae_ [] (by simp[e1]) (by simp)) (x.length-(i+1)) (by omega) ⟨i+1,rfl,by omega,by rw[ex,ey,ht,hab],rfl⟩
   ·refine cT (by simp[eqRes,hab]) ?_
    have hne:decide (x=y)=false:=by
     rw[decide_eq_false_iff_not]
     intro e
     subst e
     exact hab (hxa.symm.trans hyb)
    repeat(first|apply wG|(apply wR;simp -dsimp)|refine aI ?_)
    refine WP.ret (ab_ ?_)
    simp -dsimp[hne]
  ·have hxy:decide (x=y)=true:=by
    rw[decide_eq_true_iff,← List.take_of_length_le (l:=x) (i:=i) (by omega),ht,List.take_of_length_le (by omega)]
   refine cF (by simp;omega) ?_
   refine WP.exit ?_
   simp -dsimp
   repeat(first|apply wG|(apply wR;simp -dsimp)|refine aI ?_)
   refine WP.ret (ab_ ?_)
   simp -dsimp[hxy]
 ·have hne:decide (x=y)=false:=by
   rw[decide_eq_false_iff_not]
   intro e
   exact hl (by rw[e])
  refine cT (by simp;omega) ?_
  repeat(first|apply wG|(apply wR;simp -dsimp)|refine aI ?_)
  refine WP.ret (ab_ ?_)
  simp -dsimp[hne]
theorem r5_:∀ d∈zs,oneD d=true:=by decide
theorem ss_ {c n t:Int} (h1:isI c) (h2:isI n) (h3:isI t):aL_ (shF c n t,zs):=⟨zs_ h1 h2 h3,rfl,r5_⟩
theorem fs_ (c n t:Int):Fn0 Tryz.prog 10 [.v (.int .i64 c),.v (.int .i64 n),.v (.int .i64 t)] (sgV (shF c n t,zs)):=by
 refine ac_ (pn:=ao_) aa_ Tryz.func10 rfl fun β0=>?_
 simp only[Tryz.f10]
 repeat(first|apply wG|(apply wR;simp -dsimp)|refine aI ?_)
 refine WP.ret (ab_ ?_)
 simp -dsimp
 exact ag_ (sgc (shF c n t,zs))
theorem DF_ (l:List Sg) (b:Bool):Fn0 Tryz.prog 9 [sgD l b] (lgD l false):=by
 refine ac_ (pn:=ao_) aa_ Tryz.func9 rfl fun β0=>?_
 simp only[Tryz.f9]
 repeat(first|apply wG|(apply wR;simp -dsimp)|refine aI ?_)
 refine WP.ret (ab_ ?_)
 simp -dsimp
theorem wQ_ (l:List Sg):Fun Tryz.prog 9 [.row 1000] [(1000,sgB l)] (.d (lgD l false)) [] fun _=>False :=
 aW_ 1000 (T:=63) (cs:=sgC l) (args':=[.row 1000]) (bi':=[(1000,sgB l)]) (DF_ l false) rfl rfl trivial
theorem uH_ (b:Bool):Fn0 Tryz.prog 33 [fB_,sgD [] b] (.v (.int .i64 0)):=by
 refine ac_ (pn:=ao_) aa_ Tryz.func33 rfl fun β0=>?_
 simp only[Tryz.f33]
 repeat(first|apply wG|(apply wR;simp -dsimp)|refine aI ?_)
 refine ad_ bg_ d2_ rfl rfl (by simp) ?_
 simp -dsimp
 repeat(first|apply wG|(apply wR;simp -dsimp)|refine aI ?_)
 refine cF (by simp) ?_
 refine WP.skip ?_
 simp -dsimp
 repeat(first|apply wG|(apply wR;simp -dsimp)|refine aI ?_)
 refine ak_ (fun m S=>S=mkS 27 [(15,.d (.v (.int .i64 0))),(16,.d (.v (.int .i64 0)))] []) 1
  (S0:=mkS 27 [(15,.d (.v (.int .i64 0))),(16,.d (.v (.int .i64 0)))] []) (ae_ [] (by simp) (by simp)) rfl ?_
 rintro _ _ rfl
 simp -dsimp
 repeat(first|apply wG|(apply wR;simp -dsimp)|refine aI ?_)
 refine cF (by simp) ?_
 refine WP.exit ?_
 simp -dsimp
 repeat(first|apply wG|(apply wR;simp -dsimp)|refine aI ?_)
 refine WP.ret (ab_ ?_)
 simp -dsimp
theorem uG_ (p:Sg) (l:List Sg) (b:Bool) (hl:∀ q∈p::l,aL_ q) (h0:0≤p.1 0):Fn0 Tryz.prog 33 [fB_,sgD (p::l) b] (.v (.int .i64 (sY_ p.1))):=by
 have hp:=hl p (by simp)
 have hv:=xh_ p.1 p.2 hp.1 hp.2.1 hp.2.2 h0
 have hat:=bl_ (x:=p::l) (i:=0) (by simp) hl
 simp only[List.getElem_cons_zero,Nat.zero_mul,List.drop_zero] at hat
 have l2:=az_ hp
 have ht:=er_ hp
 have htm:=dQ_ hp
 have lc:=sgC_len hl
 refine ac_ (pn:=ao_) aa_ Tryz.func33 rfl fun β0=>?_
 simp only[Tryz.f33]
 repeat(first|apply wG|(apply wR;simp -dsimp)|refine aI ?_)
 refine ad_ bg_ d2_ rfl rfl (by simp) ?_
 simp -dsimp
 repeat(first|apply wG|(apply wR;simp -dsimp)|refine aI ?_)
 refine cF (by simp) ?_
 refine WP.skip ?_
 simp -dsimp
 repeat(first|apply wG|(apply wR;simp -dsimp)|refine aI ?_)
 refine ak_ (fun m S=>S=mkS 27 [(0,.d fB_),(14,.d (sgD (p::l) b)),(15,.d (.v (.int .i64 (p::l).length))),(16,.d (.v (.int .i64 0)))] []) 1
  (S0:=mkS 27 [(0,.d fB_),(14,.d (sgD (p::l) b)),(15,.d (.v (.int .i64 (p::l).length))),(16,.d (.v (.int .i64 0)))] []) (ae_ [] (by simp) (by simp)) rfl ?_
 rintro _ _ rfl
 generalize hX:p::l=X at *
 have hX0:0<X.length:=by rw[← hX];simp
 simp -dsimp
 repeat(first|apply wG|(apply wR;simp -dsimp)|refine aI ?_)
 refine cT (by simp;omega) ?_
 refine WP.skip ?_
 simp -dsimp
 refine WP.seq (WP.block ?_)
 repeat(first|apply wG|(apply wR;simp -dsimp[hat,l2,ht,htm])|refine aI ?_)
 refine And.intro (sgc_oneD hp) ?_
 repeat(first|apply wG|(apply wR;simp -dsimp[hat,l2,ht,htm])|refine aI ?_)
 refine af_ iN_ hv rfl rfl (And.intro (.refl _) (And.intro (ag_ _) trivial)) ?_
 simp -dsimp
 repeat(first|apply wG|(apply wR;simp -dsimp)|refine aI ?_)
 have hne:¬ sY_ p.1=0:=by unfold sY_;split<;>decide
 refine cT (by simp;exact hne) ?_
 repeat(first|apply wG|(apply wR;simp -dsimp)|refine aI ?_)
 refine WP.ret (ab_ ?_)
 simp -dsimp[sY_]
end Go.Proofs.YtdjkbdhdejlakaaGreatDoor
