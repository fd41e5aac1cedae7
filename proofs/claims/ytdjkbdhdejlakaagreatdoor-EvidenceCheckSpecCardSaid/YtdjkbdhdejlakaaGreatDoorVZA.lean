/-
  Joined texts.
-/
import Derived.Test.YtdjkbdhdejlakaaGreatDoorVZR
import Derived.Test.YtdjkbdhdejlakaaGreatDoorVZV
import Derived.Test.YtdjkbdhdejlakaaGreatDoorVWA
import Derived.Test.YtdjkbdhdejlakaaGreatDoorVZG
import Derived.Test.YtdjkbdhdejlakaaGreatDoorVR
set_option maxRecDepth 10000
set_option maxHeartbeats 4000000
set_option linter.unusedVariables false
set_option linter.unusedSimpArgs false
set_option linter.unusedSectionVars false
namespace Go.Proofs.YtdjkbdhdejlakaaGreatDoor
open Go.Xe Go.RowKit
abbrev reB (a b:List Sg):Bxs:=[(4,.cells 25 [.d (sgD a false)]),(5,.cells 25 [.d (sgD b false)])]
abbrev reS (a b:List Sg) (gs al:List R2) (i:Nat):St:=mkS 68 [(4,.ptr 4 0),(5,.ptr 5 0),(9,.d (slR al)),(10,.d (slR gs)),(11,.d (.v (.int .i64 i)))] (reB a b)
abbrev reT (a b:List Sg) (gs al:List R2) (i:Nat) (ok:Bool) (j:Nat):St:=mkS 68 [(4,.ptr 4 0),(5,.ptr 5 0),(9,.d (slR al)),(10,.d (slR gs)),(11,.d (.v (.int .i64 i))),(13,.d (.v (.bool ok))),(14,.d (.v (.int .i64 j)))] (reB a b)
theorem ku_ (c:D) (a b:List Sg) (ea eb:Int) (hca:Fn0 Tryz.prog 17 [c,lgD a false] (.v (.int .i64 ea))) (hcb:Fn0 Tryz.prog 17 [c,lgD b false] (.v (.int .i64 eb))) (hla:a.length≤12) (hlb:b.length≤12) (ha:∀ p∈a,aL_ p) (hb:∀ p∈b,aL_ p) (hno:∀ p∈b,p.1 1≤200) :
  Fn0 Tryz.prog 8 [c,lgD a false,lgD b false] (.v (.int .i64 (chkV ea eb a b))):=by
 refine ac_ (pn:=ao_) aa_ Tryz.func8 rfl fun β0=>?_
 simp only[Tryz.f8]
 repeat(first|apply wG|(apply wR;simp -dsimp)|refine aI ?_)
 refine af_ iR_ hca rfl rfl (And.intro (.refl _) (And.intro (ag_ [sgD a false]) trivial)) ?_
 simp -dsimp
 repeat(first|apply wG|(apply wR;simp -dsimp)|refine aI ?_)
 by_cases he:ea=0
 ·refine cF (by simp[he]) ?_
  refine WP.skip ?_
  simp -dsimp
  repeat(first|apply wG|(apply wR;simp -dsimp)|refine aI ?_)
  refine af_ iR_ hcb rfl rfl (And.intro (.refl _) (And.intro (ag_ [sgD b false]) trivial)) ?_
  simp -dsimp
  repeat(first|apply wG|(apply wR;simp -dsimp)|refine aI ?_)
  by_cases hf:eb=0
  ·have hr:chkV ea eb a b=if shwB a b=true then 0 else 430:=by rw[chkV,if_neg (by simp[he]),if_neg (by simp[hf])]
   rw[hr,shwB,qe_]
   have hA:=eC_ fun p hp=>(ha p hp).1
   have hB:=eC_ fun p hp=>(hb p hp).1
   have nb:∀ f∈vF b,f 1≤200:=fun f hf=>by
    obtain⟨p,hp,rfl,_⟩:=jw_.1 hf
    exact hno p hp
   have c1:=kv_ a b (by omega) (by omega) ha hb
   have c2:=rd_ b (by omega) hb hno
   have hal:=lg_ (vF a) (vF b)
   have hva:=fh_ a
   have i1:∀ r∈altL (vF a) (vF b),isI r.1∧isI r.2:=fun r hr=>ov_ hA hB hr
   have i3:∀ r∈gapS (vF b) (isA (crN (vF b) (vF b).length)),isI r.1∧isI r.2:=fun r hr=>tz_ hB nb hr
   rw[qe_] at i3
   have g2:=fI_ (vF b) nb (crs 32)
   have g3:(crs 32).length=32:=by simp[crs]
   rw[g3] at g2
   generalize altL (vF a) (vF b)=al at c1 hal i1 ⊢
   generalize gapS (vF b) (crs 32)=gs at c2 i3 g2 ⊢
   refine cF (by simp[hf]) ?_
   refine WP.skip ?_
   simp -dsimp
   repeat(first|apply wG|(apply wR;simp -dsimp)|refine aI ?_)
   refine af_ pl_ c1 rfl rfl (And.intro (ag_ [sgD a false]) (And.intro (ag_ [sgD b false]) trivial)) ?_
   simp -dsimp
   repeat(first|apply wG|(apply wR;simp -dsimp)|refine aI ?_)
   refine af_ pk_ c2 rfl rfl (And.intro (ag_ [sgD b false]) trivial) ?_
   simp -dsimp
   repeat(first|apply wG|(apply wR;simp -dsimp)|refine aI ?_)
   refine ak_ (fun m S=>∃ l1 l2,al=l1++l2∧m=l2.length∧l1.all (fun r=>(fndO a b r).isSome||decide (r∈gs))=true∧S=reS a b gs al l1.length) al.length (S0:=reS a b gs al 0) (ae_ [] (by simp) (by simp)) ⟨[],al,rfl,rfl,rfl,rfl⟩ ?_
   rintro _ _ ⟨l1,l2,hl12,rfl,hall,rfl⟩
   simp -dsimp
   repeat(first|apply wG|(apply wR;simp -dsimp)|refine aI ?_)
   cases l2 with
   | nil =>
    simp only[List.append_nil] at hl12
    subst hl12
    rw[hall]
    refine cF (by simp) ?_
    refine WP.exit ?_
    simp -dsimp
    repeat(first|apply wG|(apply wR;simp -dsimp)|refine aI ?_)
    refine WP.ret (ab_ ?_)
    simp -dsimp
   | cons r l2 =>
    have hll:al.length=l1.length+(l2.length+1):=by rw[hl12];simp
    have hlt:l1.length<al.length:=by omega
    have hat:=hS_ (x:=al) (i:=l1.length) hlt
    have hre:al[l1.length]'hlt=r:=by simp[hl12]
    rw[hre] at hat
    have lr:=cp_ al
    obtain⟨r1,r2⟩:=i1 r (by rw[hl12];simp)
    have hfi:=re_ a b r ha hb (by omega) r1 r2
    obtain⟨ok1,ok2⟩:=ik_ ha hb r
    have lk:=eS_ ok1 ok2
    have e1:IntKind.i64.wrap ((l1.length:Int)+1)=((l1++[r]).length:Nat):=by rw[IntWalk.i64_in _ (by omega)];simp
    have hone:∀ c∈fkc (fndR a b r),oneD c=true:=fun c hc=>by
     rcases List.mem_append.1 hc with h|h
     ·exact sgc_oneD ok1 c h
     ·exact sgc_oneD ok2 c h
    have htot:al.all (fun r=>(fndO a b r).isSome||decide (r∈gs))=(((fndO a b r).isSome||decide (r∈gs))&&l2.all (fun r=>(fndO a b r).isSome||decide (r∈gs))):=by
     rw[hl12,List.all_append,hall,List.all_cons,Bool.true_and]
    have hnx:((fndO a b r).isSome||decide (r∈gs))=true→(l1++[r]).all (fun r=>(fndO a b r).isSome||decide (r∈gs))=true:=fun h=>by
     rw[List.all_append,hall,List.all_cons,h];rfl
    generalize fkc (fndR a b r)=W at hfi lk hone
    generalize (fndO a b r).isSome=s at hfi htot hnx
    refine cT (by simp;omega) ?_
    refine WP.skip ?_
    simp -dsimp
    repeat(first|apply wG|(apply wR;simp -dsimp[hat])|refine aI ?_)
    refine af_ pj_ hfi rfl rfl (And.intro (ag_ [sgD a false]) (And.intro (ag_ [sgD b false]) (And.intro (by simp[rfD];try exact ag_ _) trivial))) ?_
    simp -dsimp
    repeat(first|apply wG|(apply wR;simp -dsimp[lk])|refine aI ?_)
    refine ak_ (fun m S=>∃ j:Nat,m=gs.length-j∧j≤gs.length∧S=reT a b gs al l1.length (s||decide (r∈gs.take j)) j) gs.length (S0:=reT a b gs al l1.length (s||decide (r∈gs.take 0)) 0) (ae_ [12] (by simp) (by simp)) ⟨0,rfl,by omega,rfl⟩ ?_
    rintro m _ ⟨j,rfl,hj,rfl⟩
    simp -dsimp
    repeat(first|apply wG|(apply wR;simp -dsimp)|refine aI ?_)
    by_cases hjl:j<gs.length
    ·have hatg:=hS_ (x:=gs) (i:=j) hjl
     obtain⟨y1,y2⟩:=i3 gs[j] (List.getElem_mem hjl)
     have lg:=cp_ gs
     have ej:IntKind.i64.wrap ((j:Int)+1)=((j+1:Nat):Int):=by rw[IntWalk.i64_in _ (by omega)];omega
     have htk:(s||decide (r∈gs.take (j+1)))=((s||decide (r∈gs.take j))||decide (gs[j]=r)):=by
      rw[List.take_succ_eq_append_getElem hjl,Bool.or_assoc]
      congr 1
      rw[Bool.eq_iff_iff]
      simp only[List.mem_append,List.mem_singleton,Bool.or_eq_true,decide_eq_true_eq]
      exact⟨fun h=>h.imp id Eq.symm,fun h=>h.imp id Eq.symm⟩
     generalize gs[j]=g at hatg y1 y2 htk
     generalize (s||decide (r∈gs.take j))=k at htk
     refine cT (by simp;omega) ?_
     refine WP.skip ?_
     simp -dsimp
     repeat(first|apply wG|(apply wR;simp -dsimp[hatg,hat])|refine aI ?_)
     refine dd_ aa_ qd_ cH_ rfl (.inl rfl) (m:=5) (by omega) bv_ (by decide) bN_ nG_ (cs:=[.v (.int .i64 g.1),.v (.int .i64 g.2)]) (es:=[.v (.int .i64 r.1),.v (.int .i64 r.2)]) (fun h=>by simp at h;simp[h]) (fun h=>by simp at h;simp[h]) (bB_ y1 y2) (bB_ r1 r2) (di_ g r) ?_
     simp -dsimp[eqRes]
     repeat(first|apply wG|(apply wR;simp -dsimp)|refine aI ?_)
     refine loopW.next (reT a b gs al l1.length (s||decide (r∈gs.take (j+1))) (j+1)) (ae_ [] (by simp[ej,htk]) (by simp)) (gs.length-(j+1)) (by omega) ⟨j+1,rfl,by omega,rfl⟩
    ·have hge:gs.take j=gs:=List.take_of_length_le (by omega)
     rw[hge]
     generalize (s||decide (r∈gs))=k at htot hnx ⊢
     refine cF (by simp;omega) ?_
     refine WP.exit ?_
     simp -dsimp
     repeat(first|apply wG|(apply wR;simp -dsimp)|refine aI ?_)
     cases k with
     | true =>
      refine cF (by simp) ?_
      refine WP.skip ?_
      simp -dsimp
      repeat(first|apply wG|(apply wR;simp -dsimp)|refine aI ?_)
      refine loopW.next (reS a b gs al (l1++[r]).length) (ae_ [] (by simp[e1]) (by simp)) l2.length (by simp) ⟨l1++[r],l2,by simp[hl12],rfl,hnx rfl,rfl⟩
     | false =>
      rw[htot]
      refine cT (by simp) ?_
      repeat(first|apply wG|(apply wR;simp -dsimp)|refine aI ?_)
      refine WP.ret (ab_ ?_)
      simp -dsimp
  ·have hr:chkV ea eb a b=eb:=by rw[chkV,if_neg (by simp[he]),if_pos hf]
   refine cT (by simp[hf]) ?_
   repeat(first|apply wG|(apply wR;simp -dsimp)|refine aI ?_)
   refine WP.ret (ab_ ?_)
   simp -dsimp[hr]
 ·have hr:chkV ea eb a b=ea:=by rw[chkV,if_pos he]
  refine cT (by simp[he]) ?_
  repeat(first|apply wG|(apply wR;simp -dsimp)|refine aI ?_)
  refine WP.ret (ab_ ?_)
  simp -dsimp[hr]
theorem jW_ {l:List Sg} (h:uC_ l=true):(∀ p∈l,p.1 1≤200)∧∀ p∈l,i6_ p=true:=by
 unfold uC_ noB at h
 simp only[Bool.and_eq_true,List.all_eq_true,decide_eq_true_eq] at h
 exact⟨h.1,h.2.2⟩
theorem sq_ (p:Sg):i6_ p=uW_ p:=rfl
theorem n4_ (l:List Crw) (hl:∀ c∈l,gC_ c) (hn:l.length≤10000000000000) (a:List Sg) (ha:∀ p∈a,aL_ p) (hua:∀ p∈a,sgU p) (hna:a.length≤1000000000000) (b:List Sg) (hb:∀ p∈b,aL_ p) (hub:∀ p∈b,sgU p) (hnb:b.length≤1000000000000):Fn0 Tryz.prog 3 [crwD l,lgD a false,lgD b false] (.v (.bool true)):=by
 have h12:=ys_ l hl hn
 have h13a:=w4_ a false ha (fun p hp=>zv_ (hua p hp)) hna
 have h13b:=w4_ b false hb (fun p hp=>zv_ (hub p hp)) hnb
 refine ac_ (pn:=ao_) aa_ Tryz.func3 rfl fun β0=>?_
 simp only[Tryz.f3]
 repeat(first|apply wG|(apply wR;simp -dsimp[crwD])|refine aI ?_)
 refine ad_ r0_ xF_ rfl rfl (by simp) ?_
 simp -dsimp
 repeat(first|apply wG|(apply wR;simp -dsimp)|refine aI ?_)
 refine cF (by simp) ?_
 refine WP.skip ?_
 simp -dsimp
 repeat(first|apply wG|(apply wR;simp -dsimp[crwD])|refine aI ?_)
 refine af_ rZ_ h12 rfl rfl (And.intro (by simp[crwD]) trivial) ?_
 simp -dsimp
 repeat(first|apply wG|(apply wR;simp -dsimp)|refine aI ?_)
 refine av_ j4_ (fun _=>h13a) rfl (fun _=>rfl) (fun hg=>And.intro (by simp[hg]<;>exact ag_ [sgD a false]) trivial) ?_
 simp -dsimp
 repeat(first|apply wG|(apply wR;simp -dsimp)|refine aI ?_)
 refine av_ j4_ (fun _=>h13b) rfl (fun _=>rfl) (fun hg=>And.intro (by simp[hg]<;>exact ag_ [sgD b false]) trivial) ?_
 simp -dsimp
 repeat(first|apply wG|(apply wR;simp -dsimp)|refine aI ?_)
 by_cases hfw:w5_ l=true∧uC_ a=true∧uC_ b=true∧a.length≤5∧b.length≤5
 ·obtain⟨hc,fa,fb,la,lb⟩:=hfw
  have hl4:=Aq_ hc
  obtain⟨hnoa,hsa⟩:=jW_ fa
  obtain⟨hnob,hsb⟩:=jW_ fb
  have ta:∀ p∈a,fOk p.1∧sgT p:=fun p hp=>⟨(ha p hp).1,zu_ (hua p hp) (by rw[← sq_];exact hsa p hp)⟩
  have tb:∀ p∈b,fOk p.1∧sgT p:=fun p hp=>⟨(hb p hp).1,zu_ (hub p hp) (by rw[← sq_];exact hsb p hp)⟩
  have c16:=gm_ (crwD l) a b false false (lchk l a) (lchk l b) (eF_ l hl (by omega) a false ta (by omega)) (eF_ l hl (by omega) b false tb (by omega)) (by omega) (by omega) ha hb hnob
  have c40:=ku_ (crwD l) a b (lchk l a) (lchk l b) (fr_ l hl (by omega) a false ta (by omega)) (fr_ l hl (by omega) b false tb (by omega)) (by omega) (by omega) ha hb hnob
  generalize chkV (lchk l a) (lchk l b) a b=r at *
  refine cF (by simp[hc,fa,fb];omega) ?_
  refine WP.skip ?_
  simp -dsimp
  repeat(first|apply wG|(apply wR;simp -dsimp[crwD])|refine aI ?_)
  refine af_ gu_ c16 rfl rfl (And.intro (by simp[crwD]) (And.intro (ag_ [sgD a false]) (And.intro (ag_ [sgD b false]) trivial))) ?_
  simp -dsimp
  repeat(first|apply wG|(apply wR;simp -dsimp[crwD])|refine aI ?_)
  refine af_ rY_ c40 rfl rfl (And.intro (by simp[crwD]) (And.intro (ag_ [sgD a false]) (And.intro (ag_ [sgD b false]) trivial))) ?_
  simp -dsimp
  repeat(first|apply wG|(apply wR;simp -dsimp)|refine aI ?_)
  refine WP.ret (ab_ ?_)
  simp -dsimp
 ·refine WP.cond (b:=true) (by
   simp
   cases h1:w5_ l with
   | false=>simp
   | true =>
    cases h2:uC_ a with
    | false=>simp
    | true =>
     cases h3:uC_ b with
     | false=>simp
     | true =>
      simp[h1,h2,h3] at hfw
      simp
      omega) (fun _=>?_) (fun h=>by cases h)
  repeat(first|apply wG|(apply wR;simp -dsimp)|refine aI ?_)
  refine WP.ret (ab_ ?_)
  simp -dsimp
end Go.Proofs.YtdjkbdhdejlakaaGreatDoor
