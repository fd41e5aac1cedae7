/-
  Joined texts.
-/
import Derived.Test.YtdjkbdhdejlakaaGreatDoorVO
import Derived.Test.YtdjkbdhdejlakaaGreatDoorVQ
import Derived.Test.YtdjkbdhdejlakaaGreatDoorVOA
set_option maxRecDepth 10000
set_option linter.unusedVariables false
set_option linter.unusedSimpArgs false
set_option linter.unusedSectionVars false
namespace Go.Proofs.YtdjkbdhdejlakaaGreatDoor
open Go.Xe Go.RowKit
theorem qB_ (b:Bool):Fn0 Tryz.prog 16 [fB_,lgD [] b] (.v (.int .i64 0)):=by
 refine ac_ (pn:=ao_) aa_ Tryz.func16 rfl fun β0=>?_
 simp only[Tryz.f16]
 repeat(first|apply wG|(apply wR;simp -dsimp)|refine aI ?_)
 refine ad_ bg_ d2_ rfl rfl (by simp) ?_
 simp -dsimp
 repeat(first|apply wG|(apply wR;simp -dsimp)|refine aI ?_)
 refine cF (by simp) ?_
 refine WP.skip ?_
 simp -dsimp
 repeat(first|apply wG|(apply wR;simp -dsimp)|refine aI ?_)
 refine cF (by simp) ?_
 refine WP.skip ?_
 simp -dsimp
 repeat(first|apply wG|(apply wR;simp -dsimp)|refine aI ?_)
 refine af_ e5_ (uH_ b) rfl rfl (And.intro (.refl _) (And.intro (.refl _) trivial)) ?_
 simp -dsimp
 repeat(first|apply wG|(apply wR;simp -dsimp)|refine aI ?_)
 refine cF (by simp) ?_
 refine WP.skip ?_
 simp -dsimp
 repeat(first|apply wG|(apply wR;simp -dsimp)|refine aI ?_)
 refine ak_ (fun m S=>S=mkS 44 [(3,.ptr 3 0),(7,.d (.v (.int .i64 1)))] [(3,.cells 25 [.d (sgD [] b)])]) 1 (S0:=mkS 44 [(3,.ptr 3 0),(7,.d (.v (.int .i64 1)))] [(3,.cells 25 [.d (sgD [] b)])]) (ae_ [] (by simp) (by simp)) rfl ?_
 rintro _ _ rfl
 simp -dsimp
 repeat(first|apply wG|(apply wR;simp -dsimp)|refine aI ?_)
 refine cF (by simp) ?_
 refine WP.exit ?_
 simp -dsimp
 repeat(first|apply wG|(apply wR;simp -dsimp)|refine aI ?_)
 refine WP.ret (ab_ ?_)
 simp -dsimp
theorem we_ (p:Sg) (l:List Sg) (b:Bool) (hl:∀ q∈p::l,aL_ q) (h0:0≤p.1 0) (hn:(p::l).length≤1000):Fn0 Tryz.prog 16 [fB_,lgD (p::l) b] (.v (.int .i64 (sY_ p.1))):=by
 have hv:=uG_ p l b hl h0
 generalize p::l=X at *
 refine ac_ (pn:=ao_) aa_ Tryz.func16 rfl fun β0=>?_
 simp only[Tryz.f16]
 repeat(first|apply wG|(apply wR;simp -dsimp)|refine aI ?_)
 refine ad_ bg_ d2_ rfl rfl (by simp) ?_
 simp -dsimp
 repeat(first|apply wG|(apply wR;simp -dsimp)|refine aI ?_)
 refine cF (by simp) ?_
 refine WP.skip ?_
 simp -dsimp
 repeat(first|apply wG|(apply wR;simp -dsimp)|refine aI ?_)
 refine cF (by simp;omega) ?_
 refine WP.skip ?_
 simp -dsimp
 repeat(first|apply wG|(apply wR;simp -dsimp)|refine aI ?_)
 refine af_ e5_ hv rfl rfl (And.intro (.refl _) (And.intro (.refl _) trivial)) ?_
 simp -dsimp
 repeat(first|apply wG|(apply wR;simp -dsimp)|refine aI ?_)
 have hne:¬ sY_ p.1=0:=by unfold sY_;split<;>decide
 refine cT (by simp;exact hne) ?_
 repeat(first|apply wG|(apply wR;simp -dsimp)|refine aI ?_)
 refine WP.ret (ab_ ?_)
 simp -dsimp
def shwB (a b:List Sg):Bool:=(altL (vF a) (vF b)).all fun r=>(fndO a b r).isSome||decide (r∈gapS (vF b) (isA (crN (vF b) (vF b).length)))
def chkV (ea eb:Int) (a b:List Sg):Int:=if ea≠0 then ea else if eb≠0 then eb else if shwB a b=true then 0 else 430
theorem Ah_:aL_ fk0.1∧aL_ fk0.2:=by
 have h:fOk f0:=⟨fun i=>by simp[f0,isI],.inl rfl,fun i _=>rfl⟩
 exact⟨⟨h,rfl,r5_⟩,⟨h,rfl,r5_⟩⟩
theorem ik_ {a b:List Sg} (ha:∀ p∈a,aL_ p) (hb:∀ p∈b,aL_ p) (r:R2):aL_ (fndR a b r).1∧aL_ (fndR a b r).2:=by
 rw[fndR]
 cases h:fndO a b r with
 | none=>exact Ah_
 | some q =>
  have hab:∀ p∈a++b,aL_ p:=fun p hp=>by
   rcases List.mem_append.1 hp with h|h
   ·exact ha p h
   ·exact hb p h
  obtain⟨h1,h2,_⟩:=se_ (fun s hs=>(hab s hs).1) (a:=q.1) (b:=q.2) h
  exact⟨hab _ (bd_ h1),hab _ (bd_ h2)⟩
theorem tz_ {A:List F} (hA:∀ f∈A,fOk f) (hn:∀ f∈A,f 1≤200) {r:R2} (h:r∈gapS A (isA (crN A A.length))):isI r.1∧isI r.2:=by
 obtain⟨h1,h2,h3,_⟩:=(kU_ _ _ _).1 h
 rw[tl_] at h1
 obtain⟨f,hf,e⟩:=((fS_ A A.length (Nat.le_refl _)).2.2 r.1).1 h1
 have:=hq_ (A:=A) (c:=r.1) (b:=200) (by omega) hn
 exact⟨e▸(hA f (List.mem_of_mem_take hf)).1 0,by unfold isI;omega⟩
theorem ov_ {A B:List F} (hA:∀ f∈A,fOk f) (hB:∀ f∈B,fOk f) {r:R2} (h:r∈altL A B):isI r.1∧isI r.2:=by
 obtain⟨f,hf,_,rfl⟩:=(qJ_ hA hB r).1 h
 exact⟨(hA f hf).1 0,(hA f hf).1 1⟩
theorem lg_ (A B:List F):(altL A B).length≤A.length:=by
 have h1:=fj_ (wj_ A B) []
 have h2:(wj_ A B).length≤A.length:=by rw[wj_,List.length_map];exact List.length_filter_le _ _
 have e:altL A B=(wj_ A B).foldl (fun a r=>cI_ r a) []:=rfl
 simp only[List.length_nil] at h1
 rw[e];omega
def addL (l:List R2):List R2:=l.foldl a0_ []
theorem ow_ (l:List R2) (r:R2):r∈addL l↔r∈l:=by
 rw[addL,(kz_ l [] List.nodup_nil).2]
 simp
theorem ul_ (l:List R2) (r:R2):addL (l++[r])=a0_ (addL l) r:=by rw[addL,List.foldl_append];rfl
abbrev ckG (c:D) (a b:List Sg) (gs:List R2) (i:Nat) (M:List R2):St:=mkS 67 [(0,.d c),(4,.ptr 4 0),(5,.ptr 5 0),(10,.row 32),(34,.d (slR gs)),(35,.d (.v (.int .i64 gs.length))),(36,.d (.v (.int .i64 i)))]
 [(4,.cells 25 [.d (sgD a false)]),(5,.cells 25 [.d (sgD b false)]),(32,.mp (aP_ M))]
abbrev ckA (c:D) (a b:List Sg) (M al:List R2) (i:Nat):St:=mkS 67 [(0,.d c),(4,.ptr 4 0),(5,.ptr 5 0),(10,.row 32),(45,.d (slR al)),(46,.d (.v (.int .i64 al.length))),(47,.d (.v (.int .i64 i)))]
 [(4,.cells 25 [.d (sgD a false)]),(5,.cells 25 [.d (sgD b false)]),(32,.mp (aP_ M))]
abbrev ckS (c:D) (a b:List Sg) (i:Nat):St:=mkS 67 [(0,.d c),(4,.ptr 4 0),(5,.ptr 5 0),(19,.row 19),(20,.d (.v (.int .i64 2))),(21,.d (.v (.int .i64 i)))]
 [(4,.cells 25 [.d (sgD a false)]),(5,.cells 25 [.d (sgD b false)]),(19,.row 25 1 2 [.d (sgD a false),.d (sgD b false)])]
set_option maxHeartbeats 4000000 in
theorem gm_ (c:D) (a b:List Sg) (ba bb:Bool) (ea eb:Int) (hca:Fn0 Tryz.prog 16 [c,lgD a false] (.v (.int .i64 ea))) (hcb:Fn0 Tryz.prog 16 [c,lgD b false] (.v (.int .i64 eb))) (hla:a.length≤12) (hlb:b.length≤12) (ha:∀ p∈a,aL_ p) (hb:∀ p∈b,aL_ p) (hno:∀ p∈b,p.1 1≤200) :
  Fn0 Tryz.prog 7 [c,lgD a false,lgD b false] (.v (.int .i64 (chkV ea eb a b))):=by
 refine ac_ (pn:=ao_) aa_ Tryz.func7 rfl fun β0=>?_
 simp only[Tryz.f7]
 repeat(first|apply wG|(apply wR;simp -dsimp)|refine aI ?_)
 refine ak_ (fun m S=>∃ i:Nat,i≤2∧m=2-i∧(1≤i→ea=0)∧(2≤i→eb=0)∧S=ckS c a b i) 2 (S0:=ckS c a b 0) (ae_ [] (by simp) (by simp)) ⟨0,by omega,rfl,by omega,by omega,rfl⟩ ?_
 rintro m _ ⟨i,hi,rfl,h1,h2,rfl⟩
 have w1:IntKind.i64.wrap 1=1:=by decide
 have w2:IntKind.i64.wrap 2=2:=by decide
 match i,hi,h1,h2 with
 | 0,_,_,_ =>
  simp -dsimp
  repeat(first|apply wG|(apply wR;simp -dsimp)|refine aI ?_)
  refine cT (by simp) ?_
  refine WP.skip ?_
  simp -dsimp
  repeat(first|apply wG|(apply wR;simp -dsimp)|refine aI ?_)
  refine af_ iS_ hca rfl rfl (And.intro (.refl _) (And.intro (ag_ [sgD a false]) trivial)) ?_
  simp -dsimp
  repeat(first|apply wG|(apply wR;simp -dsimp)|refine aI ?_)
  by_cases he:ea=0
  ·refine cF (by simp[he]) ?_
   refine WP.skip ?_
   simp -dsimp
   repeat(first|apply wG|(apply wR;simp -dsimp)|refine aI ?_)
   refine loopW.next (ckS c a b 1) (ae_ [8] (by simp[w1]) (by simp)) 1 (by omega) ⟨1,by omega,rfl,fun _=>he,by omega,rfl⟩
  ·refine cT (by simp[he]) ?_
   repeat(first|apply wG|(apply wR;simp -dsimp)|refine aI ?_)
   have hr:chkV ea eb a b=ea:=by rw[chkV,if_pos he]
   refine WP.ret (ab_ ?_)
   simp -dsimp[hr]
 | 1,_,h1,_ =>
  simp -dsimp
  repeat(first|apply wG|(apply wR;simp -dsimp)|refine aI ?_)
  refine cT (by simp) ?_
  refine WP.skip ?_
  simp -dsimp
  repeat(first|apply wG|(apply wR;simp -dsimp)|refine aI ?_)
  refine af_ iS_ hcb rfl rfl (And.intro (.refl _) (And.intro (ag_ [sgD b false]) trivial)) ?_
  simp -dsimp
  repeat(first|apply wG|(apply wR;simp -dsimp)|refine aI ?_)
  by_cases he:eb=0
  ·refine cF (by simp[he]) ?_
   refine WP.skip ?_
   simp -dsimp
   repeat(first|apply wG|(apply wR;simp -dsimp)|refine aI ?_)
   refine loopW.next (ckS c a b 2) (ae_ [8] (by simp[w2]) (by simp)) 0 (by omega) ⟨2,by omega,rfl,fun _=>h1 (by omega),fun _=>he,rfl⟩
  ·refine cT (by simp[he]) ?_
   repeat(first|apply wG|(apply wR;simp -dsimp)|refine aI ?_)
   have hr:chkV ea eb a b=eb:=by rw[chkV,if_neg (by simp[h1 (by omega)]),if_pos he]
   refine WP.ret (ab_ ?_)
   simp -dsimp[hr]
 | 2,_,h1,h2 =>
  have ea0:=h1 (by omega)
  have eb0:=h2 (by omega)
  have hr:chkV ea eb a b=if shwB a b=true then 0 else 430:=by rw[chkV,if_neg (by simp[ea0]),if_neg (by simp[eb0])]
  rw[hr]
  simp -dsimp
  repeat(first|apply wG|(apply wR;simp -dsimp)|refine aI ?_)
  refine cF (by simp) ?_
  refine WP.exit ?_
  simp -dsimp
  repeat(first|apply wG|(apply wR;simp -dsimp)|refine aI ?_)
  refine vcStop.makeMap 32 rfl (by simp) ?_
  simp -dsimp
  repeat(first|apply wG|(apply wR;simp -dsimp)|refine aI ?_)
  have hA:=eC_ fun p hp=>(ha p hp).1
  have hB:=eC_ fun p hp=>(hb p hp).1
  have hn200:∀ f∈vF b,f 1≤200:=fun f hf=>by
   obtain⟨p,hp,rfl,_⟩:=jw_.1 hf
   exact hno p hp
  refine af_ e9_ (oa_ b false hlb hb hno) rfl rfl (And.intro (ag_ [sgD b false]) trivial) ?_
  have hgI:∀ r∈gapS (vF b) (isA (crN (vF b) (vF b).length)),isI r.1∧isI r.2:=fun r hr=>tz_ hB hn200 hr
  have hgl:=fI_ (vF b) hn200 (isA (crN (vF b) (vF b).length))
  have hcl:(isA (crN (vF b) (vF b).length)).length≤12:=by
   have h1:=(fS_ (vF b) (vF b).length (Nat.le_refl _)).2.1
   have h2:=fh_ b
   rw[tk_];omega
  have hsw:shwB a b=(altL (vF a) (vF b)).all fun r=>(fndO a b r).isSome||decide (r∈gapS (vF b) (isA (crN (vF b) (vF b).length))):=rfl
  generalize gapS (vF b) (isA (crN (vF b) (vF b).length))=gs at hgI hgl hsw
  simp -dsimp
  repeat(first|apply wG|(apply wR;simp -dsimp)|refine aI ?_)
  refine ak_ (fun m S=>∃ g1 g2,gs=g1++g2∧m=g2.length∧S=ckG c a b gs g1.length (addL g1)) gs.length (S0:=ckG c a b gs 0 []) (ae_ [19] (by simp) (by simp[aP_])) ⟨[],gs,rfl,rfl,rfl⟩ ?_
  rintro _ _ ⟨g1,g2,hg,rfl,rfl⟩
  simp -dsimp
  repeat(first|apply wG|(apply wR;simp -dsimp)|refine aI ?_)
  cases g2 with
  | cons r g2 =>
   have hgl2:gs.length=g1.length+(g2.length+1):=by rw[hg];simp
   have hat:=hS_ (x:=gs) (i:=g1.length) (by omega)
   have hre:gs[g1.length]'(by omega)=r:=by simp[hg]
   rw[hre] at hat
   have lr:=cp_ gs
   obtain⟨r1,r2⟩:=hgI r (by rw[hg];simp)
   obtain⟨lk,hlk⟩:=f7_ r1 r2
   have e1:IntKind.i64.wrap ((g1.length:Int)+1)=(g1.length:Int)+1:=IntWalk.i64_in _ (by omega)
   have hI:q8_ (addL g1):=fun q hq=>hgI q (by rw[hg];rw[ow_] at hq;simp[hq])
   have has:=ul_ g1 r
   refine cT (by simp;omega) ?_
   refine WP.skip ?_
   simp -dsimp
   repeat(first|apply wG|(apply wR;simp -dsimp[hat])|refine aI ?_)
   refine bA_ aa_ rfl rfl dT_ (j:=32) rfl (kvs:=aP_ (addL g1)) (aP_ (a0_ (addL g1) r)) rfl (key:=cC_ r) (b1_ _ _) (d:=.v (.bool true)) (.refl _) hlk (dS_ hI) (kj_ (addL g1) _) ?_
   simp -dsimp
   repeat(first|apply wG|(apply wR;simp -dsimp)|refine aI ?_)
   refine loopW.next (ckG c a b gs (g1++[r]).length (addL (g1++[r]))) (ae_ [12] (by simp[e1]) (by simp[has])) g2.length (by simp) ⟨g1++[r],g2,by simp[hg],rfl,rfl⟩
  | nil =>
   simp only[List.append_nil] at hg
   subst hg
   have hI:q8_ (addL gs):=fun q hq=>hgI q ((ow_ _ _).1 hq)
   have hM:=ow_ gs
   refine cF (by simp) ?_
   refine WP.exit ?_
   simp -dsimp
   repeat(first|apply wG|(apply wR;simp -dsimp)|refine aI ?_)
   refine af_ e8_ (gr_ a b false false (by omega) (by omega) ha hb) rfl rfl (And.intro (ag_ [sgD a false]) (And.intro (ag_ [sgD b false]) trivial)) ?_
   have hal:=lg_ (vF a) (vF b)
   have haI:∀ r∈altL (vF a) (vF b),isI r.1∧isI r.2:=fun r hr=>ov_ hA hB hr
   have hva:=fh_ a
   generalize altL (vF a) (vF b)=al at hal haI hsw
   generalize addL gs=M at hI hM
   simp -dsimp
   repeat(first|apply wG|(apply wR;simp -dsimp)|refine aI ?_)
   refine ak_ (fun m S=>∃ a1 a2,al=a1++a2∧m=a2.length∧(a1.all fun r=>(fndO a b r).isSome||decide (r∈gs))=true∧S=ckA c a b M al a1.length) al.length (S0:=ckA c a b M al 0) (ae_ [] (by simp) (by simp)) ⟨[],al,rfl,rfl,rfl,rfl⟩ ?_
   rintro _ _ ⟨a1,a2,hal2,rfl,hsh,rfl⟩
   simp -dsimp
   repeat(first|apply wG|(apply wR;simp -dsimp)|refine aI ?_)
   cases a2 with
   | cons r a2 =>
    have hgl2:al.length=a1.length+(a2.length+1):=by rw[hal2];simp
    have hat:=hS_ (x:=al) (i:=a1.length) (by omega)
    have hre:al[a1.length]'(by omega)=r:=by simp[hal2]
    rw[hre] at hat
    have lr:=cp_ al
    obtain⟨r1,r2⟩:=haI r (by rw[hal2];simp)
    obtain⟨lk,hlk⟩:=f7_ r1 r2
    have e1:IntKind.i64.wrap ((a1.length:Int)+1)=(a1.length:Int)+1:=IntWalk.i64_in _ (by omega)
    obtain⟨hq1,hq2⟩:=ik_ ha hb r
    have fl:=eS_ hq1 hq2
    have fo:=gk_ hq1 hq2
    have hfi:=od_ a b false false r ha hb (by omega) r1 r2
    refine cT (by simp;omega) ?_
    refine WP.skip ?_
    simp -dsimp
    repeat(first|apply wG|(apply wR;simp -dsimp[hat])|refine aI ?_)
    refine af_ fa_ hfi rfl rfl (And.intro (ag_ [sgD a false]) (And.intro (ag_ [sgD b false]) (And.intro (ag_ [.v (.int .i64 r.1),.v (.int .i64 r.2)]) trivial))) ?_
    simp -dsimp[fl]
    repeat(first|apply wG|(apply wR;simp -dsimp[fl])|refine aI ?_)
    refine i3_ aa_ rfl rfl dT_ Tryz.zeroValue4 (j:=32) (fun hg=>by simp[hg]) (kvs:=aP_ M) rfl (key:=cC_ r) (fun hg=>by simp[hg];exact b1_ _ _) (.v (.bool (decide (r∈M)))) hlk (dS_ hI) (pG_ M r) ?_
    have hdm:decide (r∈M)=decide (r∈gs):=by rw[decide_eq_decide];exact hM r
    rw[hdm]
    have hne2:((fndO a b r).isSome||decide (r∈gs))=false→shwB a b=false:=fun h=>by
     rw[hsw,hal2,List.all_append,List.all_cons,h]
     simp
    have hsn:((fndO a b r).isSome||decide (r∈gs))=true→((a1++[r]).all fun r=>(fndO a b r).isSome||decide (r∈gs))=true:=fun h=>by
     rw[List.all_append,hsh,List.all_cons,h]
     rfl
    generalize fndO a b r=o at hne2 hsn
    simp -dsimp
    repeat(first|apply wG|(apply wR;simp -dsimp)|refine aI ?_)
    cases o with
    | some q =>
     refine cF (by simp) ?_
     refine WP.skip ?_
     simp -dsimp
     repeat(first|apply wG|(apply wR;simp -dsimp)|refine aI ?_)
     refine loopW.next (ckA c a b M al (a1++[r]).length) (ae_ [14,15] (by simp[e1]) (by simp)) a2.length (by simp) ⟨a1++[r],a2,by simp[hal2],rfl,hsn rfl,rfl⟩
    | none =>
     by_cases hrg:r∈gs
     ·refine cF (by simp[hrg]) ?_
      refine WP.skip ?_
      simp -dsimp
      repeat(first|apply wG|(apply wR;simp -dsimp)|refine aI ?_)
      refine loopW.next (ckA c a b M al (a1++[r]).length) (ae_ [14,15] (by simp[e1]) (by simp)) a2.length (by simp) ⟨a1++[r],a2,by simp[hal2],rfl,hsn (by simp[hrg]),rfl⟩
     ·refine cT (by simp[hrg]) ?_
      repeat(first|apply wG|(apply wR;simp -dsimp)|refine aI ?_)
      have hs0:shwB a b=false:=hne2 (by simp[hrg])
      refine WP.ret (ab_ ?_)
      simp -dsimp[hs0]
   | nil =>
    simp only[List.append_nil] at hal2
    subst hal2
    refine cF (by simp) ?_
    refine WP.exit ?_
    simp -dsimp
    repeat(first|apply wG|(apply wR;simp -dsimp)|refine aI ?_)
    have hs1:shwB a b=true:=by rw[hsw];exact hsh
    refine WP.ret (ab_ ?_)
    simp -dsimp[hs1]
abbrev fewS (l:List Crw) (i:Nat):St:=mkS 23 [(0,.d (crwD l)),(5,.d (crwD l)),(6,.d (.v (.int .i64 l.length))),(7,.d (.v (.int .i64 i)))] []
def y6_ (c:Crw):Bool := !(decide (16<c.2)&&decide (c.2≤4096))
def w5_ (l:List Crw):Bool:=l.all y6_&&decide ((l.length:Int)≤4)
theorem ys_ (l:List Crw) (hl:∀ c∈l,gC_ c) (hn:l.length≤10000000000000):Fn0 Tryz.prog 5 [crwD l] (.v (.bool (w5_ l))):=by
 refine ac_ (pn:=ao_) aa_ Tryz.func5 rfl fun β0=>?_
 simp only[Tryz.f5]
 repeat(first|apply wG|(apply wR;simp -dsimp[crwD])|refine aI ?_)
 refine ak_ (fun q S=>∃ l1 l2,l=l1++l2∧q=l2.length∧l1.all y6_=true∧S=fewS l l1.length) l.length (S0:=fewS l 0) (ae_ [] (by simp[crwD]) (by simp)) ⟨[],l,rfl,rfl,rfl,rfl⟩ ?_
 rintro _ _ ⟨l1,l2,hl12,rfl,ha,rfl⟩
 simp -dsimp[crwD]
 repeat(first|apply wG|(apply wR;simp -dsimp)|refine aI ?_)
 cases l2 with
 | nil =>
  simp only[List.append_nil] at hl12
  subst hl12
  refine cF (by simp) ?_
  refine WP.exit ?_
  simp -dsimp
  repeat(first|apply wG|(apply wR;simp -dsimp)|refine aI ?_)
  refine WP.ret (ab_ ?_)
  simp -dsimp[w5_,ha]
 | cons c l2 =>
  have hll:l.length=l1.length+(l2.length+1):=by rw[hl12];simp
  have hc:=hl c (by rw[hl12];simp)
  have hat:=qy_ (l1:=l1) (c:=c) (l2:=l2) (by rw[← hl12];exact hl)
  rw[← hl12] at hat
  have e1:IntKind.i64.wrap ((l1.length:Int)+1)=(l1.length:Int)+1:=IntWalk.i64_in _ (by omega)
  have hcl:=d3_ hc
  have hm:=is_ hc
  have ht33:List.take 33 (crX c)=crX c:=List.take_of_length_le (by omega)
  have hcc:=eU_ hl
  have hlt:l1.length<l.length:=by omega
  have hce:(crX c)[32]'(by omega)=.v (.int .i64 c.2):=by
   have h:=v9_ hc
   rw[List.getElem?_eq_getElem (by omega)] at h
   exact Option.some.inj h
  refine cT (by simp;omega) ?_
  refine WP.skip ?_
  simp -dsimp
  repeat(first|apply wG|(apply wR;simp -dsimp[hat,hcl,hlt,ht33])|refine aI ?_)
  refine And.intro (fun a h=>k7_ h) ?_
  repeat(first|apply wG|(apply wR;simp -dsimp[hcl,hm,hce])|refine aI ?_)
  by_cases hb:y6_ c=true
  ·refine cF (by simp[y6_] at hb;simp;omega) ?_
   refine WP.skip ?_
   simp -dsimp
   repeat(first|apply wG|(apply wR;simp -dsimp)|refine aI ?_)
   refine loopW.next (fewS l (l1++[c]).length) (ae_ [] (by simp[crwD,e1]) (by simp)) l2.length (by simp) ⟨l1++[c],l2,by simp[hl12],rfl,by rw[List.all_append,ha];simp[hb],rfl⟩
  ·have hb:y6_ c=false:=by simpa using hb
   refine cT (by simp[y6_] at hb;simp;omega) ?_
   have hf:w5_ l=false:=by rw[w5_,hl12,List.all_append,List.all_cons,hb];simp
   repeat(first|apply wG|(apply wR;simp -dsimp)|refine aI ?_)
   refine WP.ret (ab_ ?_)
   simp -dsimp[hf]
theorem Aq_ {l:List Crw} (h:w5_ l=true):l.length≤4:=by
 rw[w5_,Bool.and_eq_true,decide_eq_true_eq] at h
 omega
end Go.Proofs.YtdjkbdhdejlakaaGreatDoor
