/-
  Joined texts.
-/
import Derived.Test.YtdjkbdhdejlakaaGreatDoorVZG
set_option maxRecDepth 10000
set_option linter.unusedVariables false
set_option linter.unusedSimpArgs false
set_option linter.unusedSectionVars false
namespace Go.Proofs.YtdjkbdhdejlakaaGreatDoor
open Go.Xe Go.RowKit
def rA1:Sg:=(shF 2 1 5,zs)
def rA2:Sg:=(shF 2 4 6,zs)
def rB1:Sg:=(shF 2 1 7,zs)
theorem sJ_:aL_ rA1:=ss_ (by unfold isI;omega) (by unfold isI;omega) (by unfold isI;omega)
theorem pN_:aL_ rA2:=ss_ (by unfold isI;omega) (by unfold isI;omega) (by unfold isI;omega)
theorem sI_:aL_ rB1:=ss_ (by unfold isI;omega) (by unfold isI;omega) (by unfold isI;omega)
def xA:List Sg:=[rA1,rA2]
def xB:List Sg:=[rB1,rA2]
theorem hz_:∀ p∈xA,aL_ p:=fun p hp=>by
 simp only[xA,List.mem_cons,List.not_mem_nil,or_false] at hp
 rcases hp with rfl|rfl
 ·exact sJ_
 ·exact pN_
theorem xe_:∀ p∈xB,aL_ p:=fun p hp=>by
 simp only[xB,List.mem_cons,List.not_mem_nil,or_false] at hp
 rcases hp with rfl|rfl
 ·exact sI_
 ·exact pN_
theorem zo_:∀ p∈xA,p.1 1≤200:=fun p hp=>by
 simp only[xA,List.mem_cons,List.not_mem_nil,or_false] at hp
 rcases hp with rfl|rfl<;>decide
theorem xt_:(fndO xA xB (2,1)).isSome=true:=by kernel_rfl
theorem uT_:(fndR xA xB (2,1)).1.1 2=5:=by kernel_rfl
theorem uS_:(fndR xA xB (2,1)).2.1 2=7:=by kernel_rfl
theorem xr_:(fndO xA [] (2,1)).isSome=false:=by kernel_rfl
theorem xs_:gapS (vF xA) (isA (crN (vF xA) (vF xA).length))=[(2,2),(2,3)]:=by kernel_rfl
theorem xx_:altL (vF xA) (vF xA)=[]:=by kernel_rfl
theorem xw_:altL (vF xA) (vF xB)=[(2,1)]:=by kernel_rfl
theorem uR_:gapS (vF []) (isA (crN (vF []) (vF []).length))=[]:=by kernel_rfl
theorem xv_:chkV 0 0 [] []=0:=by kernel_rfl
theorem wE_:sY_ rA1.1=130:=by kernel_rfl
theorem xu_:chkV (sY_ rA1.1) (sY_ rA1.1) xA xA=130:=by rw[chkV,if_pos (by rw[wE_];decide),wE_]
theorem yq_ (q:Sg×Sg):atL ((fkc q).map AV.d) 2=.d (.v (.int .i64 (q.1.1 2))):=rfl
theorem yp_ {q:Sg×Sg} (h:aL_ q.1):atL ((fkc q).map AV.d) 63=.d (.v (.int .i64 (q.2.1 2))):=by
 rw[← b6_,fkc,List.map_append,List.getElem?_append_right (by rw[List.length_map,az_ h];omega),List.length_map,az_ h]
 rfl
theorem u1_ (x y:List R2) (hx:∀ r∈x,isI r.1∧isI r.2) (hy:∀ r∈y,isI r.1∧isI r.2) (hn:x.length≤100000):Fun Tryz.prog 12 [.d (slR x),.row 1000] [(1000,rfB y)] (.d (.v (.bool (decide (x=y))))) [] fun _=>False :=
 aW_ 1000 (T:=56) (cs:=rfC y) (args':=[.d (slR x),.row 1000]) (bi':=[(1000,rfB y)]) (pC_ x y hx hy hn) rfl rfl trivial
set_option maxHeartbeats 4000000 in
theorem xF_:Fn0 Tryz.prog 4 [] (.v (.bool true)):=by
 have a1:=az_ sJ_
 have a2:=az_ pN_
 have b1:=az_ sI_
 have o1:=sgc_oneD sJ_
 have o2:=sgc_oneD pN_
 have o3:=sgc_oneD sI_
 have hof1:Fun Tryz.prog 9 [.row 1000] [(1000,.row 63 61 2 ((sgC xA).map .d))] (.d (lgD xA false)) [] fun _=>False:=wQ_ xA
 have hof2:Fun Tryz.prog 9 [.row 1000] [(1000,.row 63 61 2 ((sgC xB).map .d))] (.d (lgD xB false)) [] fun _=>False:=wQ_ xB
 have hf1:=od_ xA xB false false (2,1) hz_ xe_ (by decide) (by unfold isI;omega) (by unfold isI;omega)
 have hf2:=od_ xA [] false false (2,1) hz_ (by simp) (by decide) (by unfold isI;omega) (by unfold isI;omega)
 have eA:sgC xA=sgc rA1++sgc rA2:=by simp[sgC,xA,sgc]
 have eB:sgC xB=sgc rB1++sgc rA2:=by simp[sgC,xB,sgc]
 have lA:xA.length=2:=rfl
 have lB:xB.length=2:=rfl
 have h12:∀ cs:List AV,cs.length=122→setL (setL cs 0 ((sgc rA1).map .d)) 61 ((sgc rA2).map .d)=(sgC xA).map .d:=fun cs hc=>by
  rw[hf_ (by rw[List.length_map,a1]) (by rw[List.length_map,a2]) hc,eA,List.map_append]
 have h13:∀ cs:List AV,cs.length=122→setL (setL cs 0 ((sgc rB1).map .d)) 61 ((sgc rA2).map .d)=(sgC xB).map .d:=fun cs hc=>by
  rw[hf_ (by rw[List.length_map,b1]) (by rw[List.length_map,a2]) hc,eB,List.map_append]
 have hg1:Fn0 Tryz.prog 13 [lgD xA false] (slR [(2,2),(2,3)]):=by
  have:=oa_ xA false (by decide) hz_ zo_
  rwa[xs_] at this
 have hg0:Fn0 Tryz.prog 13 [lgD [] false] (slR []):=by
  have:=oa_ [] false (by decide) (by simp) (by simp)
  rwa[uR_] at this
 have ha0:Fn0 Tryz.prog 14 [lgD xA false,lgD xA false] (slR []):=by
  have:=gr_ xA xA false false (by decide) (by decide) hz_ hz_
  rwa[xx_] at this
 have ha1:Fn0 Tryz.prog 14 [lgD xA false,lgD xB false] (slR [(2,1)]):=by
  have:=gr_ xA xB false false (by decide) (by decide) hz_ xe_
  rwa[xw_] at this
 have hs1:=u1_ [(2,2),(2,3)] [(2,2),(2,3)] (by simp[isI]) (by simp[isI]) (by decide)
 have hs2:=pC_ [(2,1)] [(2,1)] (by simp[isI]) (by simp[isI]) (by decide)
 have hk0:Fn0 Tryz.prog 7 [fB_,lgD [] false,lgD [] false] (.v (.int .i64 0)):=by
  have:=gm_ fB_ [] [] false false 0 0 (qB_ false) (qB_ false) (by decide) (by decide) (by simp) (by simp) (by simp)
  rwa[xv_] at this
 have hk1:Fn0 Tryz.prog 7 [fB_,lgD xA false,lgD xA false] (.v (.int .i64 130)):=by
  have hc:Fn0 Tryz.prog 16 [fB_,lgD xA false] (.v (.int .i64 (sY_ rA1.1))):=we_ rA1 [rA2] false hz_ (by decide) (by decide)
  have:=gm_ fB_ xA xA false false _ _ hc hc (by decide) (by decide) hz_ hz_ zo_
  rwa[xu_] at this
 refine ac_ (pn:=ao_) aa_ Tryz.func4 rfl fun β0=>?_
 simp only[Tryz.f4]
 repeat(first|apply wG|(apply wR;simp -dsimp)|refine aI ?_)
 refine ad_ dC_ (fs_ 2 1 5) rfl rfl (by simp) ?_
 simp -dsimp
 refine ad_ dC_ (fs_ 2 4 6) rfl rfl (by simp) ?_
 rw[show sgV (shF 2 1 5,zs)=.agg (sgc rA1) from rfl,show sgV (shF 2 4 6,zs)=.agg (sgc rA2) from rfl]
 simp -dsimp[a1,a2,h12]
 refine And.intro ⟨o1,by rw[setL_length];simp,o2⟩ ?_
 refine vcStop.call j3_ (hof1) (rl [(1000,11)]) rfl rfl (by simp[BoxLeq]) (ai_ (by simp[BoxLeq]) rfl (by first|rfl|(simp[BoxLeq];done)) (by simp[BoxLeq]) (by simp[BoxLeq])) (fun _ h=>h.elim) (fun ⟨_,h⟩=>h.elim) (fun ⟨_,h⟩=>h.elim) (by simp[BoxLeq]) ?_
 simp -dsimp
 repeat(first|apply wG|(apply wR;simp -dsimp)|refine aI ?_)
 refine ad_ dC_ (fs_ 2 1 7) rfl rfl (by simp) ?_
 simp -dsimp
 refine ad_ dC_ (fs_ 2 4 6) rfl rfl (by simp) ?_
 rw[show sgV (shF 2 1 7,zs)=.agg (sgc rB1) from rfl,show sgV (shF 2 4 6,zs)=.agg (sgc rA2) from rfl]
 simp -dsimp[b1,a2,h13]
 refine And.intro ⟨o3,by rw[setL_length];simp,o2⟩ ?_
 refine vcStop.call j3_ (hof2) (rl [(1000,15)]) rfl rfl (by simp[BoxLeq]) (ai_ (by simp[BoxLeq]) rfl (by first|rfl|(simp[BoxLeq];done)) (by simp[BoxLeq]) (by simp[BoxLeq])) (fun _ h=>h.elim) (fun ⟨_,h⟩=>h.elim) (fun ⟨_,h⟩=>h.elim) (by simp[BoxLeq]) ?_
 simp -dsimp
 repeat(first|apply wG|(apply wR;simp -dsimp)|refine aI ?_)
 refine af_ fa_ hf1 rfl rfl (And.intro (ag_ [sgD xA false]) (And.intro (ag_ [sgD xB false]) (And.intro (ag_ [.v (.int .i64 2),.v (.int .i64 1)]) trivial))) ?_
 obtain⟨q1,q2⟩:=ik_ hz_ xe_ (2,1)
 obtain⟨u1,u2⟩:=ik_ (b:=[]) hz_ (by simp) (2,1)
 have q3:=uT_
 have q4:=uS_
 generalize fndR xA xB (2,1)=q at q1 q2 q3 q4
 generalize fndR xA [] (2,1)=u at u1 u2 hf2
 have fl:=eS_ q1 q2
 have fo:=gk_ q1 q2
 have gl:=eS_ u1 u2
 have go:=gk_ u1 u2
 have v1:=yq_ q
 have v2:=yp_ (q:=q) q1
 rw[q3] at v1
 rw[q4] at v2
 rw[xt_]
 rw[xr_] at hf2
 simp -dsimp[fl]
 repeat(first|apply wG|(apply wR;simp -dsimp[fl])|refine aI ?_)
 refine af_ fa_ hf2 rfl rfl (And.intro (ag_ [sgD xA false]) (And.intro (by simp[sgC]) (And.intro (ag_ [.v (.int .i64 2),.v (.int .i64 1)]) trivial))) ?_
 simp -dsimp[gl]
 repeat(first|apply wG|(apply wR;simp -dsimp[gl])|refine aI ?_)
 refine af_ e9_ hg1 rfl rfl (And.intro (ag_ [sgD xA false]) trivial) ?_
 simp -dsimp
 refine vcStop.call iT_ (hs1) (rl [(1000,36)]) rfl rfl (by simp[rfC,BoxLeq]) (ai_ (by simp[rfC,BoxLeq]) rfl (by first|rfl|(simp[rfC,BoxLeq];done)) (by simp[rfC,BoxLeq]) (by simp[rfC,BoxLeq])) (fun _ h=>h.elim) (fun ⟨_,h⟩=>h.elim) (fun ⟨_,h⟩=>h.elim) (by simp[rfC,BoxLeq]) ?_
 simp -dsimp
 repeat(first|apply wG|(apply wR;simp -dsimp)|refine aI ?_)
 refine av_ e8_ (fun _=>ha0) rfl (fun _=>rfl) (fun _=>And.intro (ag_ [sgD xA false]) (And.intro (ag_ [sgD xA false]) trivial)) ?_
 simp -dsimp
 repeat(first|apply wG|(apply wR;simp -dsimp)|refine aI ?_)
 refine av_ e8_ (fun _=>ha1) rfl (fun _=>rfl) (fun _=>And.intro (ag_ [sgD xA false]) (And.intro (ag_ [sgD xB false]) trivial)) ?_
 simp -dsimp
 refine fY_ aa_ (ds:=rfC [(2,1)]) rfl rfl rfl rfl (LeqL.refl _) (by decide) (by decide) (by simp) ?_
 simp -dsimp
 refine av_ iT_ (fun _=>hs2) rfl (fun _=>rfl) (fun _=>And.intro (.refl _) (And.intro (.refl _) trivial)) ?_
 simp -dsimp
 repeat(first|apply wG|(apply wR;simp -dsimp)|refine aI ?_)
 refine av_ e9_ (fun _=>hg0) rfl (fun _=>rfl) (fun _=>And.intro (by simp[sgC]) trivial) ?_
 simp -dsimp
 repeat(first|apply wG|(apply wR;simp -dsimp[v1,v2])|refine aI ?_)
 refine av_ gu_ (fun _=>hk0) rfl (fun _=>rfl) (fun _=>And.intro (.refl _) (And.intro (by simp[sgC]) (And.intro (by simp[sgC]) trivial))) ?_
 simp -dsimp
 repeat(first|apply wG|(apply wR;simp -dsimp)|refine aI ?_)
 refine av_ gu_ (fun _=>hk1) rfl (fun _=>rfl) (fun _=>And.intro (.refl _) (And.intro (ag_ [sgD xA false]) (And.intro (ag_ [sgD xA false]) trivial))) ?_
 simp -dsimp
 repeat(first|apply wG|(apply wR;simp -dsimp)|refine aI ?_)
 refine WP.ret (ab_ ?_)
 simp -dsimp
def sgF (p:Sg):Prop:=∃ (k:Int) (s1 n1 s2 n2 s3 n3:Nat) (c1 c2 c3:List D),isI k∧p.2=[.v (.int .i64 k),.sl s1 c1 n1 false,.sl s2 c2 n2 false,.sl s3 c3 n3 false]
def i6_ (p:Sg):Bool:=match p.2 with
 | [_,.sl _ _ n1 _,.sl _ _ n2 _,.sl _ _ n3 _]=>decide (n1≤100)&&(decide (n2≤100)&&decide (n3≤20))
 | _=>false
theorem sr_ (p:Sg) (h:sgF p):Fn0 Tryz.prog 31 [.agg p.2] (.v (.bool (i6_ p))):=by
 obtain⟨k,s1,n1,s2,n2,s3,n3,c1,c2,c3,_,e⟩:=h
 have hs:i6_ p=(decide (n1≤100)&&(decide (n2≤100)&&decide (n3≤20))):=by rw[i6_,e]
 rw[hs,e]
 have e1:((n1:Int)≤100)=(n1≤100):=propext (by omega)
 have e2:((n2:Int)≤100)=(n2≤100):=propext (by omega)
 have e3:((n3:Int)≤20)=(n3≤20):=propext (by omega)
 refine ac_ (pn:=ao_) aa_ Tryz.func31 rfl fun β0=>?_
 simp only[Tryz.f31]
 repeat(first|apply wG|(apply wR;simp -dsimp)|refine aI ?_)
 refine WP.ret (ab_ ?_)
 simp -dsimp[e1,e2,e3,Bool.and_assoc]
theorem xC_ {p:Sg} (h:aL_ p):List.take 4 (List.drop 57 (sgc p))=p.2:=by
 rw[sgc,List.drop_left' (ax_ _),List.take_of_length_le (by rw[h.2.1];omega)]
abbrev fwS (l:List Sg) (b:Bool) (m:Int) (i:Nat):St:=mkS 23 [(0,.d (sgD l b)),(1,.d (.v (.int .i64 m))),(5,.d (.v (.int .i64 i)))] []
theorem vR_ (l:List Sg) (b:Bool) (m:Nat) (hl:∀ p∈l,aL_ p) (hf:∀ p∈l,sgF p) (hn:l.length≤1000000000000):Fn0 Tryz.prog 15 [sgD l b,.v (.int .i64 m)] (.v (.bool (decide (l.length≤m)&&l.all i6_))):=by
 refine ac_ (pn:=ao_) aa_ Tryz.func15 rfl fun β0=>?_
 simp only[Tryz.f15]
 repeat(first|apply wG|(apply wR;simp -dsimp)|refine aI ?_)
 by_cases hlm:l.length≤m
 ·have hd:decide (l.length≤m)=true:=by simpa using hlm
  rw[hd,Bool.true_and]
  refine cF (by simp;omega) ?_
  refine WP.skip ?_
  simp -dsimp
  repeat(first|apply wG|(apply wR;simp -dsimp)|refine aI ?_)
  refine ak_ (fun q S=>∃ l1 l2,l=l1++l2∧q=l2.length∧l1.all i6_=true∧S=fwS l b m l1.length) l.length (S0:=fwS l b m 0) (ae_ [] (by simp) (by simp)) ⟨[],l,rfl,rfl,rfl,rfl⟩ ?_
  rintro _ _ ⟨l1,l2,hl12,rfl,ha,rfl⟩
  simp -dsimp
  repeat(first|apply wG|(apply wR;simp -dsimp)|refine aI ?_)
  cases l2 with
  | nil =>
   simp only[List.append_nil] at hl12
   subst hl12
   refine cF (by simp) ?_
   refine WP.exit ?_
   simp -dsimp
   repeat(first|apply wG|(apply wR;simp -dsimp)|refine aI ?_)
   refine WP.ret (ab_ ?_)
   simp -dsimp[ha]
  | cons p l2 =>
   have hll:l.length=l1.length+(l2.length+1):=by rw[hl12];simp
   have hlt:l1.length<l.length:=by omega
   have hp:=hl p (by rw[hl12];simp)
   have hat:=bl_ hlt hl
   have hpe:l[l1.length]=p:=by simp[hl12]
   rw[hpe] at hat
   have lc:=sgC_len hl
   have l2':=az_ hp
   have hsg:=xC_ hp
   have hsl:=hp.2.1
   have hso:=hp.2.2
   have e1:IntKind.i64.wrap ((l1.length:Int)+1)=(l1.length:Int)+1:=IntWalk.i64_in _ (by omega)
   refine cT (by simp;omega) ?_
   refine WP.skip ?_
   simp -dsimp
   repeat(first|apply wG|(apply wR;simp -dsimp[hat,hsg,l2'])|refine aI ?_)
   refine af_ pb_ (sr_ p (hf p (by rw[hl12];simp))) rfl rfl (And.intro (.refl _) trivial) ?_
   simp -dsimp
   repeat(first|apply wG|(apply wR;simp -dsimp)|refine aI ?_)
   cases hs:i6_ p with
   | true =>
    refine cF (by simp[hs]) ?_
    refine WP.skip ?_
    simp -dsimp
    repeat(first|apply wG|(apply wR;simp -dsimp)|refine aI ?_)
    refine loopW.next (fwS l b m (l1++[p]).length) (ae_ [] (by simp[e1]) (by simp)) l2.length (by simp) ⟨l1++[p],l2,by simp[hl12],rfl,by rw[List.all_append,ha];simp[hs],rfl⟩
   | false =>
    refine cT (by simp[hs]) ?_
    have hal:l.all i6_=false:=by rw[hl12,List.all_append,List.all_cons,hs];simp
    repeat(first|apply wG|(apply wR;simp -dsimp)|refine aI ?_)
    refine WP.ret (ab_ ?_)
    simp -dsimp[hal]
 ·have hd:decide (l.length≤m)=false:=by simpa using hlm
  rw[hd,Bool.false_and]
  refine cT (by simp;omega) ?_
  repeat(first|apply wG|(apply wR;simp -dsimp)|refine aI ?_)
  refine WP.ret (ab_ ?_)
  simp -dsimp
def noB (p:Sg):Bool:=decide (p.1 1≤200)
def uC_ (l:List Sg):Bool:=l.all noB&&(decide (l.length≤10)&&l.all i6_)
abbrev fvS (l:List Sg) (b:Bool) (i:Nat):St:=mkS 22 [(1,.ptr 1 0),(3,.d (.v (.int .i64 i)))] [(1,.cells 25 [.d (sgD l b)])]
theorem zt_ (p:Sg):((List.drop 1 (sgc p))[0]?).getD .any=.v (.int .i64 (p.1 1)):=rfl
theorem Dy_ (p:Sg):((sgc p)[1]?).getD .any=.v (.int .i64 (p.1 1)):=rfl
theorem w4_ (l:List Sg) (b:Bool) (hl:∀ p∈l,aL_ p) (hf:∀ p∈l,sgF p) (hn:l.length≤1000000000000):Fn0 Tryz.prog 6 [lgD l b] (.v (.bool (uC_ l))):=by
 refine ac_ (pn:=ao_) aa_ Tryz.func6 rfl fun β0=>?_
 simp only[Tryz.f6]
 repeat(first|apply wG|(apply wR;simp -dsimp)|refine aI ?_)
 refine ak_ (fun q S=>∃ l1 l2,l=l1++l2∧q=l2.length∧l1.all noB=true∧S=fvS l b l1.length) l.length (S0:=fvS l b 0) (ae_ [] (by simp) (by simp)) ⟨[],l,rfl,rfl,rfl,rfl⟩ ?_
 rintro _ _ ⟨l1,l2,hl12,rfl,ha,rfl⟩
 simp -dsimp
 repeat(first|apply wG|(apply wR;simp -dsimp)|refine aI ?_)
 cases l2 with
 | nil =>
  simp only[List.append_nil] at hl12
  subst hl12
  refine cF (by simp) ?_
  refine WP.exit ?_
  simp -dsimp
  repeat(first|apply wG|(apply wR;simp -dsimp)|refine aI ?_)
  refine af_ pm_ (vR_ l b 10 hl hf hn) rfl rfl (And.intro (.refl _) (And.intro (.refl _) trivial)) ?_
  simp -dsimp
  repeat(first|apply wG|(apply wR;simp -dsimp)|refine aI ?_)
  refine WP.ret (ab_ ?_)
  simp -dsimp[uC_,ha]
 | cons p l2 =>
  have hll:l.length=l1.length+(l2.length+1):=by rw[hl12];simp
  have hlt:l1.length<l.length:=by omega
  have hp:=hl p (by rw[hl12];simp)
  have hat:=bl_ hlt hl
  have hpe:l[l1.length]=p:=by simp[hl12]
  rw[hpe] at hat
  have lc:=sgC_len hl
  have l2':=az_ hp
  have hs1:=zt_ p
  have hs2:=Dy_ p
  have e1:IntKind.i64.wrap ((l1.length:Int)+1)=(l1.length:Int)+1:=IntWalk.i64_in _ (by omega)
  refine cT (by simp;omega) ?_
  refine WP.skip ?_
  simp -dsimp
  repeat(first|apply wG|(apply wR;simp -dsimp[hat,l2',hs1,hs2])|refine aI ?_)
  cases hs:noB p with
  | true =>
   have h200:p.1 1≤200:=by simpa [noB] using hs
   refine cF (by simp;omega) ?_
   refine WP.skip ?_
   simp -dsimp
   repeat(first|apply wG|(apply wR;simp -dsimp)|refine aI ?_)
   refine loopW.next (fvS l b (l1++[p]).length) (ae_ [] (by simp[e1]) (by simp)) l2.length (by simp) ⟨l1++[p],l2,by simp[hl12],rfl,by rw[List.all_append,ha];simp[hs],rfl⟩
  | false =>
   have h200:200<p.1 1:=by simpa [noB] using hs
   refine cT (by simp;omega) ?_
   have hal:uC_ l=false:=by rw[uC_,hl12,List.all_append,List.all_cons,hs];simp
   repeat(first|apply wG|(apply wR;simp -dsimp)|refine aI ?_)
   refine WP.ret (ab_ ?_)
   simp -dsimp[hal]
end Go.Proofs.YtdjkbdhdejlakaaGreatDoor
