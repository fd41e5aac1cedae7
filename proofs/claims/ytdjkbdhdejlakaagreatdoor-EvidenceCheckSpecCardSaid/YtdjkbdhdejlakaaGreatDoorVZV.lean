/-
  Joined texts.
-/
import Derived.Test.YtdjkbdhdejlakaaGreatDoorVC
import Derived.Test.YtdjkbdhdejlakaaGreatDoorVG
import Derived.Test.YtdjkbdhdejlakaaGreatDoorVH
import Derived.Test.YtdjkbdhdejlakaaGreatDoorVZR
import Derived.Test.YtdjkbdhdejlakaaGreatDoorVN
import Derived.Test.YtdjkbdhdejlakaaGreatDoorVM
import Derived.Test.YtdjkbdhdejlakaaGreatDoorVZG
set_option maxRecDepth 10000
set_option maxHeartbeats 4000000
set_option linter.unusedVariables false
set_option linter.unusedSimpArgs false
set_option linter.unusedSectionVars false
namespace Go.Proofs.YtdjkbdhdejlakaaGreatDoor
open Go.Xe Go.RowKit
theorem l2_ {f g:F} (hf:fOk f) (hg:fOk g):b5_ f g=cx_ f g:=by rw[b5_,cx_,oi_ hf,oi_ hg]
theorem mJ_ (x y:Sg) (hf:fOk x.1) (hg:fOk y.1):Fn0 Tryz.prog 97 [fD x.1,fD y.1] (.v (.bool (jg_ x y))):=by
 have hc:=fq_ x.1 y.1 hf hg
 rw[l2_ hf hg] at hc
 have hd:jg_ x y=(if x.1 0≠y.1 0 then decide (x.1 0<y.1 0) else if x.1 1≠y.1 1 then decide (x.1 1<y.1 1) else decide (cx_ x.1 y.1<0)):=by
  rw[Bool.eq_iff_iff,befB_iff]
  unfold ltR
  have e1:(refS x).1=x.1 0:=rfl
  have e2:(refS x).2=x.1 1:=rfl
  have e3:(refS y).1=y.1 0:=rfl
  have e4:(refS y).2=y.1 1:=rfl
  have e5:refS x=refS y↔x.1 0=y.1 0∧x.1 1=y.1 1:=⟨fun h=>⟨congrArg Prod.fst h,congrArg Prod.snd h⟩,fun h=>Prod.ext h.1 h.2⟩
  rw[e1,e2,e3,e4,e5]
  by_cases h0:x.1 0=y.1 0
  ·rw[if_neg (fun h=>h h0)]
   by_cases h1:x.1 1=y.1 1
   ·rw[if_neg (fun h=>h h1),decide_eq_true_iff];omega
   ·rw[if_pos h1,decide_eq_true_iff];omega
  ·rw[if_pos h0,decide_eq_true_iff];omega
 generalize x.1=f at *
 generalize y.1=g at *
 rw[hd]
 clear hd
 refine ac_ (pn:=ao_) aa_ Tryz.func97 rfl fun β0=>?_
 simp only[Tryz.f97]
 rw[fD,fD]
 repeat(first|apply wG|(apply wR;simp -dsimp)|refine aI ?_)
 by_cases h0:f 0=g 0
 ·refine cF (by simp[h0]) ?_
  refine WP.skip ?_
  simp -dsimp
  repeat(first|apply wG|(apply wR;simp -dsimp)|refine aI ?_)
  by_cases h1:f 1=g 1
  ·refine cF (by simp[h1]) ?_
   refine WP.skip ?_
   simp -dsimp
   repeat(first|apply wG|(apply wR;simp -dsimp)|refine aI ?_)
   refine ad_ iL_ hc rfl rfl (by simp[fD]) ?_
   simp -dsimp
   repeat(first|apply wG|(apply wR;simp -dsimp)|refine aI ?_)
   refine WP.ret (ab_ ?_)
   simp -dsimp[h0,h1]
  ·refine cT (by simp[h1]) ?_
   repeat(first|apply wG|(apply wR;simp -dsimp)|refine aI ?_)
   refine WP.ret (ab_ ?_)
   simp -dsimp[h0,h1]
 ·refine cT (by simp[h0]) ?_
  repeat(first|apply wG|(apply wR;simp -dsimp)|refine aI ?_)
  refine WP.ret (ab_ ?_)
  simp -dsimp[h0]
def Ag_ (f g:F):Bool:=decide (cA_ f=cA_ g) && !eqF f g
theorem mq_ (f g:F) (hf:fOk f) (hg:fOk g):Fn0 Tryz.prog 67 [fD f,fD g] (.v (.bool (Ag_ f g))):=by
 have hs:=f8_ f g hf hg
 have hd:Ag_ f g=(decide (f 0=g 0)&&decide (f 1=g 1) && !eqF f g):=by
  rw[Ag_]
  congr 1
  rw[Bool.eq_iff_iff,decide_eq_true_iff,Bool.and_eq_true,decide_eq_true_iff,decide_eq_true_iff]
  exact⟨fun h=>⟨congrArg Prod.fst h,congrArg Prod.snd h⟩,fun h=>Prod.ext h.1 h.2⟩
 rw[hd]
 clear hd
 refine ac_ (pn:=ao_) aa_ Tryz.func67 rfl fun β0=>?_
 simp only[Tryz.f67]
 rw[fD,fD]
 repeat(first|apply wG|(apply wR;simp -dsimp)|refine aI ?_)
 refine ah_ eX_ (fun _=>hs) rfl (fun _=>rfl) (fun h=>by simp[fD]) ?_
 simp -dsimp
 repeat(first|apply wG|(apply wR;simp -dsimp)|refine aI ?_)
 refine WP.ret (ab_ ?_)
 simp -dsimp
theorem eg_ (p:Sg):∀ (l1 l2:List Sg),(∀ s∈l1,jg_ s p=true)→lu_ p (l1++l2)=l1++lu_ p l2
 | [],_,_=>rfl
 | s::l1,l2,h=>by
  rw[List.cons_append,lu_,if_pos (h s (by simp)),eg_ p l1 l2 fun t ht=>h t (by simp[ht])]
  rfl
theorem p6_ (s:Sg):∀ l:List Sg,(lu_ s l).length≤l.length+1
 | []=>Nat.le_refl _
 | t::l=>by
  have:=p6_ s l
  rw[lu_]
  split
  ·simp;omega
  ·split<;>simp
theorem px_ (l:List Sg):(srtB l).length≤l.length:=by
 induction hn:l.length generalizing l with
 | zero=>rw[List.eq_nil_of_length_eq_zero hn];exact Nat.le_refl _
 | succ n ih =>
  rcases List.eq_nil_or_concat l with rfl|⟨l,x,rfl⟩
  ·cases hn
  ·rw[List.concat_eq_append] at hn ⊢
   have h1:=ih l (by simpa using hn)
   have h2:=p6_ x (srtB l)
   rw[hM_]
   split<;>omega
abbrev soS (l:List Sg) (b:Bool) (S:List Sg) (i:Nat):St:=mkS 73 [(0,.d (sgD l b)),(3,.d (sgD S false)),(4,.d (.v (.int .i64 i)))] []
abbrev sdS2 (l:List Sg) (b:Bool) (S:List Sg) (i j:Nat):St:=mkS 73 [(0,.d (sgD l b)),(3,.d (sgD S false)),(4,.d (.v (.int .i64 i))),(5,.d (.v (.int .i64 j)))] []
theorem nJ_ (l:List Sg) (b:Bool) (hl:∀ p∈l,aL_ p) (hn:l.length≤1000):Fn0 Tryz.prog 66 [sgD l b] (sgD (srtB l) false):=by
 refine ac_ (pn:=ao_) aa_ Tryz.func66 rfl fun β0=>?_
 simp only[Tryz.f66]
 repeat(first|apply wG|(apply wR;simp -dsimp)|refine aI ?_)
 refine ak_ (fun m Z=>∃ l1 l2,l=l1++l2∧m=l2.length∧Z=soS l b (srtB l1) l1.length) l.length (S0:=soS l b [] 0) ((ae_ [] (S':=mkS 73 [(0,.d (sgD l b)),(3,.row 7),(4,.d (.v (.int .i64 0)))] [(7,.row 63 61 0 [])]) (by simp) (by simp)).trans ((Wk.freeze (k:=7) (T:=63) (sz:=61) (n:=0) (ds:=[]) (by simp)).trans (ae_ [] (by simp[sgC]) (by simp)))) ⟨[],l,rfl,rfl,rfl⟩ ?_
 rintro _ _ ⟨l1,l2,hl12,rfl,rfl⟩
 simp -dsimp
 repeat(first|apply wG|(apply wR;simp -dsimp)|refine aI ?_)
 cases l2 with
 | nil =>
  simp only[List.append_nil] at hl12
  subst hl12
  refine cF (by simp) ?_
  refine WP.exit ?_
  simp -dsimp
  repeat(first|apply wG|(apply wR;simp -dsimp)|refine aI ?_)
  refine WP.ret (ab_ ?_)
  simp -dsimp
 | cons p l2 =>
  have hll:l.length=l1.length+(l2.length+1):=by rw[hl12];simp
  have hp:=hl p (by rw[hl12];simp)
  have lp:=az_ hp
  have hi:l1.length<l.length:=by omega
  have h1:=bl_ hi hl
  have hre:l[l1.length]=p:=by simp[hl12]
  rw[hre] at h1
  have hsl:=sgC_len hl
  have e1:IntKind.i64.wrap ((l1.length:Int)+1)=((l1++[p]).length:Nat):=by rw[IntWalk.i64_in _ (by omega)];simp
  have hrc:=dj_ p.1 hp.1
  rw[← (kJ_ hp.1).1] at hrc
  have hsn:=hM_ l1 p
  have h57:=b4_ p
  have h57D:=dh_ p
  obtain⟨hasc,hmem⟩:=nI_ l1 fun s hs=>(hl s (by rw[hl12];simp[hs])).1
  have hSk:∀ s∈srtB l1,aL_ s:=fun s hs=>hl s (by rw[hl12];simp[bd_ ((hmem s).1 hs)])
  have hvs:vS2 p=(numF p.1).2:=rfl
  rw[hvs] at hsn
  have hSn:(srtB l1).length≤1000:=Nat.le_trans (px_ l1) (by omega)
  generalize srtB l1=S at hsn hSk hSn hasc
  generalize (numF p.1).2=c at hrc hsn
  refine cT (by simp;omega) ?_
  refine WP.skip ?_
  simp -dsimp
  repeat(first|apply wG|(apply wR;simp -dsimp[h1,h57,h57D])|refine aI ?_)
  refine ad_ dA_ hrc rfl rfl (by simp[fD]) ?_
  simp -dsimp
  repeat(first|apply wG|(apply wR;simp -dsimp)|refine aI ?_)
  cases c with
  | false =>
   simp only[Bool.false_eq_true,if_false] at hsn
   refine cT (by simp) ?_
   refine WP.exit ?_
   simp -dsimp
   repeat(first|apply wG|(apply wR;simp -dsimp)|refine aI ?_)
   refine loopW.next (soS l b (srtB (l1++[p])) (l1++[p]).length) (ae_ [] (by simp[e1,hsn]) (by simp)) l2.length (by simp) ⟨l1++[p],l2,by simp[hl12],rfl,rfl⟩
  | true =>
   simp only[if_true] at hsn
   refine cF (by simp) ?_
   refine WP.skip ?_
   simp -dsimp
   repeat(first|apply wG|(apply wR;simp -dsimp)|refine aI ?_)
   refine ak_ (fun m Z=>∃ S1 S2,S=S1++S2∧m=S2.length∧(∀ s∈S1,jg_ s p=true)∧Z=sdS2 l b S l1.length S1.length) S.length (S0:=sdS2 l b S l1.length 0) (ae_ [] (by simp) (by simp)) ⟨[],S,rfl,rfl,by simp,rfl⟩ ?_
   rintro m _ ⟨S1,S2,hS12,rfl,hbf,rfl⟩
   have hSC:=sgC_len hSk
   have hSl:S.length=S1.length+S2.length:=by rw[hS12];simp
   simp -dsimp
   have hdrS:List.take ((S.length-S1.length)*61) (List.drop (S1.length*61) ((sgC S).map AV.d))=(sgC S2).map .d:=by
    have hk2:∀ s∈S2,aL_ s:=fun s hs=>hSk s (by rw[hS12];simp[hs])
    have hk1:∀ s∈S1,aL_ s:=fun s hs=>hSk s (by rw[hS12];simp[hs])
    conv=>lhs;rw[hS12]
    rw[a2_,List.map_append,List.drop_left' (by rw[List.length_map,sgC_len hk1]),List.take_of_length_le (by rw[List.length_map,sgC_len hk2,List.length_append];omega)]
   have htkS:List.take (S1.length*61) ((sgC S).map AV.d)=(sgC S1).map .d:=by
    have hk1:∀ s∈S1,aL_ s:=fun s hs=>hSk s (by rw[hS12];simp[hs])
    conv=>lhs;rw[hS12]
    rw[a2_,List.map_append,List.take_left' (by rw[List.length_map,sgC_len hk1])]
   have hset:∀ cs:List AV,cs.length=61→setL cs 0 ((sgc p).map AV.d)=(sgc p).map .d:=fun cs hc=>by
    rw[co_ _ _ _ (by rw[List.length_map];omega),List.take_zero,List.nil_append,List.length_map,List.drop_of_length_le (by omega),List.append_nil]
   have ht:=er_ hp
   have htm:=dQ_ hp
   have hone:=sgc_oneD hp
   cases S2 with
   | nil =>
    have hil:¬ S1.length<S.length:=by simp at hSl;omega
    have hins:lu_ p S=S1++[p]:=by rw[hS12,eg_ p S1 [] hbf];rfl
    repeat(first|apply wG|(apply wR;simp -dsimp[hil])|refine aI ?_)
    refine ah_ iA_ (fun _=>mJ_ p p hp.1 hp.1) rfl (fun _=>rfl) (fun h=>by simp at h) ?_
    simp -dsimp[hil]
    repeat(first|apply wG|(apply wR;simp -dsimp[hil])|refine aI ?_)
    refine cF (by simp) ?_
    refine WP.exit ?_
    simp -dsimp[hil]
    repeat(first|apply wG|(apply wR;simp -dsimp[hil])|refine aI ?_)
    refine ah_ eX_ (fun _=>f8_ p.1 p.1 hp.1 hp.1) rfl (fun _=>rfl) (fun h=>by simp at h) ?_
    simp -dsimp[hil]
    repeat(first|apply wG|(apply wR;simp -dsimp[hil])|refine aI ?_)
    refine cF (by simp) ?_
    refine WP.skip ?_
    simp -dsimp
    repeat(first|apply wG|(apply wR;simp -dsimp[h1,hdrS,htkS,ht,htm,hset])|refine aI ?_)
    have hR:(sgC S1).map AV.d++((sgc p).map AV.d++(sgC []).map AV.d)=(sgC (srtB (l1++[p]))).map .d:=by
     rw[hsn,hins,a2_,List.map_append,show sgC (p::[])=sgc p++sgC [] from rfl,List.map_append]
    have hlen:S1.length+(1+(S.length-S1.length))=(srtB (l1++[p])).length:=by rw[hsn,hins,hSl];first|(simp;done)|(simp;omega)
    rw[hR,hlen]
    refine loopW.next (soS l b (srtB (l1++[p])) (l1++[p]).length) ((ae_ [65] (S':=mkS 73 [(0,.d (sgD l b)),(3,.row 71),(4,.d (.v (.int .i64 ((l1++[p]).length:Nat))))] [(71,.row 63 61 (srtB (l1++[p])).length ((sgC (srtB (l1++[p]))).map .d))]) (by simp[e1]) (by simp)).trans ((Wk.freeze (k:=71) (T:=63) (sz:=61) (n:=(srtB (l1++[p])).length) (ds:=sgC (srtB (l1++[p]))) (by simp)).trans (ae_ [] (by simp) (by simp)))) l2.length (by simp) ⟨l1++[p],l2,by simp[hl12],rfl,rfl⟩
   | cons s S2 =>
    have hil:S1.length<S.length:=by simp at hSl;omega
    have h2:=bl_ hil hSk
    have hre2:S[S1.length]=s:=by simp[hS12]
    have hs:=hSk S[S1.length] (List.getElem_mem hil)
    rw[hre2] at h2 hs
    have k57:=b4_ s
    have k57D:=dh_ s
    have ls:=az_ hs
    have hS2l:(sgC (s::S2)).length=(S.length-S1.length)*61:=by
     have hk2:∀ t∈s::S2,aL_ t:=fun t ht=>hSk t (by rw[hS12];exact List.mem_append.2 (.inr ht))
     rw[sgC_len hk2,hSl,Nat.add_sub_cancel_left]
    have hbo:=mJ_ s p hs.1 hp.1
    have hsa:=f8_ s.1 p.1 hs.1 hp.1
    repeat(first|apply wG|(apply wR;simp -dsimp[hil,h1,h2,h57,h57D,k57,k57D])|refine aI ?_)
    refine ah_ iA_ (fun _=>hbo) rfl (fun _=>rfl) (fun _=>by simp[fD]) ?_
    simp -dsimp
    repeat(first|apply wG|(apply wR;simp -dsimp)|refine aI ?_)
    cases hb:jg_ s p with
    | true =>
     have e2:IntKind.i64.wrap ((S1.length:Int)+1)=((S1++[s]).length:Nat):=by rw[IntWalk.i64_in _ (by omega)];simp
     refine cT (by simp[hb]) ?_
     refine WP.skip ?_
     simp -dsimp
     repeat(first|apply wG|(apply wR;simp -dsimp)|refine aI ?_)
     refine loopW.next (sdS2 l b S l1.length (S1++[s]).length) (ae_ [] (by simp[e2]) (by simp)) S2.length (by simp) ⟨S1++[s],S2,by simp[hS12],rfl,fun t ht=>?_,rfl⟩
     rcases List.mem_append.1 ht with ht|ht
     ·exact hbf t ht
     ·rw[List.mem_singleton.1 ht];exact hb
    | false =>
     refine cF (by simp[hb]) ?_
     refine WP.exit ?_
     simp -dsimp
     repeat(first|apply wG|(apply wR;simp -dsimp[hil,h1,h2,h57,h57D,k57,k57D])|refine aI ?_)
     refine ah_ eX_ (fun _=>hsa) rfl (fun _=>rfl) (fun _=>by simp[fD]) ?_
     simp -dsimp
     repeat(first|apply wG|(apply wR;simp -dsimp)|refine aI ?_)
     cases he:eqF s.1 p.1 with
     | true =>
      have hins:lu_ p S=S:=by rw[hS12,eg_ p S1 _ hbf,lu_,if_neg (by simp[hb]),if_pos he]
      rw[hins] at hsn
      refine cT (by simp[he]) ?_
      refine WP.exit ?_
      simp -dsimp
      repeat(first|apply wG|(apply wR;simp -dsimp)|refine aI ?_)
      refine loopW.next (soS l b (srtB (l1++[p])) (l1++[p]).length) (ae_ [] (by simp[e1,hsn]) (by simp)) l2.length (by simp) ⟨l1++[p],l2,by simp[hl12],rfl,rfl⟩
     | false =>
      have hins:lu_ p S=S1++p::s::S2:=by rw[hS12,eg_ p S1 _ hbf,lu_,if_neg (by simp[hb]),if_neg (by simp[he])]
      refine cF (by simp[he]) ?_
      refine WP.skip ?_
      simp -dsimp
      repeat(first|apply wG|(apply wR;simp -dsimp[h1,hdrS,htkS,ht,htm,hset])|refine aI ?_)
      have hR:(sgC S1).map AV.d++((sgc p).map AV.d++(sgC (s::S2)).map AV.d)=(sgC (srtB (l1++[p]))).map .d:=by
       rw[hsn,hins,a2_,List.map_append,show sgC (p::(s::S2))=sgc p++sgC (s::S2) from rfl,List.map_append]
      have hlen:S1.length+(1+(S.length-S1.length))=(srtB (l1++[p])).length:=by rw[hsn,hins,hSl];first|(simp;done)|(simp;omega)
      rw[hR,hlen]
      refine loopW.next (soS l b (srtB (l1++[p])) (l1++[p]).length) ((ae_ [65] (S':=mkS 73 [(0,.d (sgD l b)),(3,.row 71),(4,.d (.v (.int .i64 ((l1++[p]).length:Nat))))] [(71,.row 63 61 (srtB (l1++[p])).length ((sgC (srtB (l1++[p]))).map .d))]) (by simp[e1]) (by simp)).trans ((Wk.freeze (k:=71) (T:=63) (sz:=61) (n:=(srtB (l1++[p])).length) (ds:=sgC (srtB (l1++[p]))) (by simp)).trans (ae_ [] (by simp) (by simp)))) l2.length (by simp) ⟨l1++[p],l2,by simp[hl12],rfl,rfl⟩
def prvR (S:List Sg):Option R2:=S.getLast?.map refS
theorem l5_ (S:List Sg) (x:Sg):prvR (S++[x])=some (refS x):=by simp[prvR]
theorem tF_ {x y:Sg} (hx:fOk x.1) (hy:fOk y.1) (h:jg_ x y=true):Ag_ x.1 y.1=decide (refS x=refS y):=by
 have he:eqF x.1 y.1=false:=by
  cases he:eqF x.1 y.1 with
  | false=>rfl
  | true =>
   have e:=(gn_ hx hy).1 he
   have h2:jg_ y x=true:=by
    rw[befB_iff] at h ⊢
    rw[refS,refS,e] at h
    rw[refS,refS,e]
    exact h
   exact absurd h2 (oq_ h)
 rw[Ag_,he,Bool.not_false,Bool.and_true]
 rfl
abbrev fkS (l:List Sg) (b:Bool) (S:List Sg) (K:List (Sg×Sg)) (i:Nat):St:=mkS 61 [(0,.d (sgD l b)),(3,.d (sgD S false)),(4,.row 503),(5,.d (.v (.int .i64 i)))] [(503,.row 66 122 K.length ((fkC K).map .d))]
theorem rw_ (l:List Sg) (b:Bool) (hl:∀ p∈l,aL_ p) (hn:l.length≤1000):Fn0 Tryz.prog 44 [sgD l b] (slK (frkL l)):=by
 have hso:=nJ_ l b hl hn
 obtain⟨hasc,hmem⟩:=nI_ l fun s hs=>(hl s hs).1
 have hSk:∀ s∈srtB l,aL_ s:=fun s hs=>hl s (bd_ ((hmem s).1 hs))
 have hSn:=Nat.le_trans (px_ l) hn
 rw[← ym_ l fun s hs=>(hl s hs).1]
 generalize srtB l=S at hso hasc hSk hSn
 refine ac_ (pn:=ao_) aa_ Tryz.func44 rfl fun β0=>?_
 simp only[Tryz.f44]
 repeat(first|apply wG|(apply wR;simp -dsimp)|refine aI ?_)
 refine af_ oR_ hso rfl rfl (And.intro (.refl _) trivial) ?_
 simp -dsimp
 repeat(first|apply wG|(apply wR;simp -dsimp)|refine aI ?_)
 refine ak_ (fun m Z=>∃ S1 R K,S=S1++R∧m=R.length∧K++pickA (prvR S1) R=pickA none S∧K.length≤S1.length∧Z=fkS l b S K S1.length) S.length (S0:=fkS l b S [] 0) (Wk.go [] 8 503 (by decide) (by simp) (by simp) (by simp[fkC])) ⟨[],S,[],rfl,rfl,rfl,Nat.le_refl _,rfl⟩ ?_
 rintro _ _ ⟨S1,R,K,hS,rfl,hK,hKl,rfl⟩
 have hSl:S.length=S1.length+R.length:=by rw[hS];simp
 simp -dsimp
 repeat(first|apply wG|(apply wR;simp -dsimp)|refine aI ?_)
 have e0:IntKind.i64.wrap ((S1.length:Int)+1)=((S1.length+1:Nat):Int):=by rw[IntWalk.i64_in _ (by omega)];omega
 have hdone:R.length≤1→K=pickA none S:=fun h=>by
  rw[← hK]
  match R,h with
  | [],_=>cases prvR S1<;>simp[pickA]
  | [x],_=>cases prvR S1<;>simp[pickA]
 by_cases hR2:R.length≤1
 ·have hKe:=hdone hR2
  refine cF (by simp[e0];omega) ?_
  refine WP.exit ?_
  simp -dsimp
  repeat(first|apply wG|(apply wR;simp -dsimp)|refine aI ?_)
  rw[← hKe]
  refine WP.ret (am_ (S':=mkS 61 [(2,.d (slK K))] []) (Wk.trans (ae_ [] (S':=mkS 61 [(2,.row 503)] [(503,.row 66 122 K.length ((fkC K).map .d))]) (by simp) (by simp)) (Wk.trans (Wk.freeze (k:=503) (T:=66) (sz:=122) (n:=K.length) (ds:=fkC K) (by simp)) (ae_ [] (by simp) (by simp)))) ?_)
  simp -dsimp
 ·refine cT (by simp[e0];omega) ?_
  refine WP.skip ?_
  match R,hR2,hS,hK,hSl with
  | [],h,_,_,_=>exact absurd (Nat.zero_le _) h
  | [x],h,_,_,_=>exact absurd (Nat.le_refl _) h
  | x::y::R,_,hS,hK,hSl =>
   have hi1:S1.length<S.length:=by simp at hSl;omega
   have hi2:S1.length+1<S.length:=by simp at hSl;omega
   have h1:=bl_ hi1 hSk
   have h2:=bl_ hi2 hSk
   have hx1:S[S1.length]=x:=by simp[hS]
   have hx2:S[S1.length+1]=y:=by simp[hS]
   have hx:=hSk S[S1.length] (List.getElem_mem hi1)
   have hy:=hSk S[S1.length+1] (List.getElem_mem hi2)
   rw[hx1] at h1 hx
   rw[hx2] at h2 hy
   have hbe:jg_ x y=true:=by
    have h3:=hasc
    rw[hS] at h3
    have h4:=(List.pairwise_append.1 h3).2.1
    exact (List.pairwise_cons.1 h4).1 y (by simp)
   have hfk:=mq_ x.1 y.1 hx.1 hy.1
   rw[tF_ hx.1 hy.1 hbe] at hfk
   have hSC:=sgC_len hSk
   have lx:=az_ hx
   have ly:=az_ hy
   have x57:=b4_ x
   have x57D:=dh_ x
   have y57:=b4_ y
   have y57D:=dh_ y
   have hnx:prvR (S1++[x])=some (refS x):=l5_ S1 x
   have hstep:pickA (prvR S1) (x::y::R)=(if refS x=refS y∧prvR S1≠some (refS x) then [(x,y)] else [])++pickA (some (refS x)) (y::R):=by
    cases prvR S1<;>rw[pickA]
   have hS2:S=(S1++[x])++(y::R):=by rw[hS];simp
   have hlx:(S1++[x]).length=S1.length+1:=by simp
   have hset2:∀ cs:List AV,cs.length=122→setL (setL cs 0 ((sgc x).map AV.d)) 61 ((sgc y).map AV.d)=(sgc x).map .d++(sgc y).map .d:=fun cs hc=>hf_ (by rw[List.length_map,lx]) (by rw[List.length_map,ly]) hc
   have hset3:∀ cs:List AV,cs.length=122→setL cs 0 ((sgc x).map AV.d++(sgc y).map AV.d)=(sgc x).map .d++(sgc y).map .d:=fun cs hc=>by
    rw[co_ _ _ _ (by rw[List.length_append,List.length_map,List.length_map];omega),List.take_zero,List.nil_append,List.drop_of_length_le (by rw[List.length_append,List.length_map,List.length_map];omega),List.append_nil]
   have hw1:IntKind.i64.wrap 1=1:=by decide
   have honeC:∀ c:AV,((∃ a,a∈sgc x∧AV.d a=c)∨∃ a,a∈sgc y∧AV.d a=c)→oneA c=true:=by
    rintro c (⟨a,ha,rfl⟩|⟨a,ha,rfl⟩)
    ·exact sgc_oneD hx a ha
    ·exact sgc_oneD hy a ha
   simp -dsimp
   repeat(first|apply wG|(apply wR;simp -dsimp[e0,h1,h2,x57,x57D,y57,y57D])|refine aI ?_)
   by_cases hd:refS x=refS y
   ·rw[decide_eq_true hd] at hfk
    refine ad_ cz_ hfk rfl rfl (by simp[fD]) ?_
    rcases List.eq_nil_or_concat S1 with h0|⟨S0,z,hz⟩
    ·subst h0
     rw[if_pos ⟨hd,by simp[prvR]⟩] at hstep
     simp only[List.length_nil,Nat.zero_mul,Nat.zero_add,Nat.one_mul,List.drop_zero] at h1 h2
     have tx:=er_ hx
     have ty:=er_ hy
     simp -dsimp
     repeat(first|apply wG|(apply wR;simp -dsimp)|refine aI ?_)
     refine ah_ cz_ (fun _=>hfk) rfl (fun _=>rfl) (fun h=>by simp at h) ?_
     simp -dsimp
     repeat(first|apply wG|(apply wR;simp -dsimp)|refine aI ?_)
     refine cT (by simp) ?_
     repeat(first|apply wG|(apply wR;simp -dsimp[h1,h2,tx,ty,hw1,hset2,hset3,setL_length])|refine aI ?_)
     refine And.intro ⟨⟨lx,sgc_oneD hx⟩,ly,sgc_oneD hy⟩ ?_
     refine And.intro ⟨by omega,honeC⟩ ?_
     repeat(first|apply wG|(apply wR;simp -dsimp[hw1,e0])|refine aI ?_)
     refine loopW.next (fkS l b S (K++[(x,y)]) ([]++[x]).length) (Wk.go [58,503] 59 503 (by decide) (by simp) (by simp[e0,hw1]) (by simp[fkC,fkc])) (y::R).length (by simp) ⟨[]++[x],y::R,K++[(x,y)],hS2,rfl,by rw[hnx,List.append_assoc,← hstep];exact hK,by rw[List.length_append,List.length_append];exact Nat.add_le_add_right hKl 1,rfl⟩
    ·rw[List.concat_eq_append] at hz
     have hl0:S1.length=S0.length+1:=by rw[hz];simp
     have hn0:¬ ((S1.length:Int)=0):=by omega
     have e3:IntKind.i64.wrap ((S1.length:Int)-1)=((S1.length-1:Nat):Int):=by rw[IntWalk.i64_in _ (by omega)];omega
     have hi3:S1.length-1<S.length:=by omega
     have h3:=bl_ hi3 hSk
     have hx3:S[S1.length-1]=z:=by simp[hS,hz]
     have hzk:=hSk S[S1.length-1] (List.getElem_mem hi3)
     rw[hx3] at h3 hzk
     have lz:=az_ hzk
     have z57:=b4_ z
     have z57D:=dh_ z
     have hbz:jg_ z x=true:=by
      have h3:=hasc
      rw[hS] at h3
      exact (List.pairwise_append.1 h3).2.2 z (by rw[hz];simp) x (by simp)
     have hfz:=mq_ z.1 x.1 hzk.1 hx.1
     rw[tF_ hzk.1 hx.1 hbz] at hfz
     have hpz:prvR S1=some (refS z):=by rw[hz,l5_]
     have hne:¬ S1=[]:=fun h=>by rw[h] at hl0;cases hl0
     have tx:=er_ hx
     have ty:=er_ hy
     simp -dsimp[hne]
     repeat(first|apply wG|(apply wR;simp -dsimp[hne,e3,h1,h3,x57,x57D,z57,z57D])|refine aI ?_)
     refine ah_ cz_ (fun _=>hfz) rfl (fun _=>rfl) (fun _=>by simp[fD,hne,e3,h3,h1,z57D,x57D]) ?_
     simp -dsimp[hne]
     repeat(first|apply wG|(apply wR;simp -dsimp[hne])|refine aI ?_)
     by_cases hzx:refS z=refS x
     ·rw[if_neg fun h=>h.2 (by rw[hpz,hzx]),List.nil_append] at hstep
      refine cF (by simp[hzx]) ?_
      refine WP.skip ?_
      simp -dsimp
      repeat(first|apply wG|(apply wR;simp -dsimp)|refine aI ?_)
      refine loopW.next (fkS l b S K (S1++[x]).length) (ae_ [] (by simp[e0]) (by simp)) (y::R).length (by simp) ⟨S1++[x],y::R,K,hS2,rfl,by rw[hnx,← hstep];exact hK,by omega,rfl⟩
     ·rw[if_pos ⟨hd,fun h=>hzx (by rw[hpz] at h;exact Option.some.inj h)⟩] at hstep
      refine cT (by simp[hzx]) ?_
      repeat(first|apply wG|(apply wR;simp -dsimp[h1,h2,e0,tx,ty,hset2,hset3,setL_length])|refine aI ?_)
      refine And.intro ⟨⟨lx,sgc_oneD hx⟩,ly,sgc_oneD hy⟩ ?_
      refine And.intro ⟨by omega,honeC⟩ ?_
      repeat(first|apply wG|(apply wR;simp -dsimp[hw1,e0])|refine aI ?_)
      refine loopW.next (fkS l b S (K++[(x,y)]) (S1++[x]).length) (Wk.go [58,503] 59 503 (by decide) (by simp) (by simp[e0,hw1]) (by simp[fkC,fkc])) (y::R).length (by simp) ⟨S1++[x],y::R,K++[(x,y)],hS2,rfl,by rw[hnx,List.append_assoc,← hstep];exact hK,by rw[List.length_append,List.length_append];exact Nat.add_le_add_right hKl 1,rfl⟩
   ·rw[decide_eq_false hd] at hfk
    rw[if_neg fun h=>hd h.1,List.nil_append] at hstep
    refine ad_ cz_ hfk rfl rfl (by simp[fD]) ?_
    simp -dsimp
    repeat(first|apply wG|(apply wR;simp -dsimp)|refine aI ?_)
    refine ah_ cz_ (fun _=>hfk) rfl (fun _=>rfl) (fun h=>by simp at h) ?_
    simp -dsimp
    repeat(first|apply wG|(apply wR;simp -dsimp)|refine aI ?_)
    refine cF (by simp) ?_
    refine WP.skip ?_
    simp -dsimp
    repeat(first|apply wG|(apply wR;simp -dsimp)|refine aI ?_)
    refine loopW.next (fkS l b S K (S1++[x]).length) (ae_ [] (by simp[e0]) (by simp)) (y::R).length (by simp) ⟨S1++[x],y::R,K,hS2,rfl,by rw[hnx,← hstep];exact hK,by omega,rfl⟩
def zE:List AV:=[.d (.v (.int .i64 0)),.d (.v (.int .i64 0)),.d (.v (.int .i64 0)),.d (.v (.int .i64 0)),.d (.v (.int .i64 0)),.d (.v (.int .i64 0)),.d (.v (.int .i64 0)),.d (.v (.int .i64 0)),.d (.v (.int .i64 0)),.d (.v (.int .i64 0)),.d (.v (.int .i64 0)),.d (.v (.int .i64 0)),.d (.v (.int .i64 0)),.d (.v (.int .i64 0)),.d (.v (.int .i64 0)),.d (.v (.int .i64 0)),.d (.v (.int .i64 0)),.d (.v (.int .i64 0)),.d (.v (.int .i64 0)),.d (.v (.int .i64 0)),.d (.v (.int .i64 0)),.d (.v (.int .i64 0)),.d (.v (.int .i64 0)),.d (.v (.int .i64 0)),.d (.v (.int .i64 0)),.d (.v (.int .i64 0)),.d (.v (.int .i64 0)),.d (.v (.int .i64 0)),.d (.v (.int .i64 0)),.d (.v (.int .i64 0)),.d (.v (.int .i64 0)),.d (.v (.int .i64 0)),.d (.v (.int .i64 0)),.d (.v (.int .i64 0)),.d (.v (.int .i64 0)),.d (.v (.int .i64 0)),.d (.v (.int .i64 0)),.d (.v (.int .i64 0)),.d (.v (.int .i64 0)),.d (.v (.int .i64 0)),.d (.v (.int .i64 0)),.d (.v (.int .i64 0)),.d (.v (.int .i64 0)),.d (.v (.int .i64 0)),.d (.v (.int .i64 0)),.d (.v (.int .i64 0)),.d (.v (.int .i64 0)),.d (.v (.int .i64 0)),.d (.v (.int .i64 0)),.d (.v (.int .i64 0)),.d (.v (.int .i64 0)),.d (.v (.int .i64 0)),.d (.v (.int .i64 0)),.d (.v (.int .i64 0)),.d (.v (.bool false)),.d (.v (.int .i64 0)),.d (.v (.int .i64 0)),.d (.v (.int .i64 0)),.d (.v (.slice none 0 0)),.d (.v (.slice none 0 0)),.d (.v (.slice none 0 0)),.d (.v (.int .i64 0)),.d (.v (.int .i64 0)),.d (.v (.int .i64 0)),.d (.v (.int .i64 0)),.d (.v (.int .i64 0)),.d (.v (.int .i64 0)),.d (.v (.int .i64 0)),.d (.v (.int .i64 0)),.d (.v (.int .i64 0)),.d (.v (.int .i64 0)),.d (.v (.int .i64 0)),.d (.v (.int .i64 0)),.d (.v (.int .i64 0)),.d (.v (.int .i64 0)),.d (.v (.int .i64 0)),.d (.v (.int .i64 0)),.d (.v (.int .i64 0)),.d (.v (.int .i64 0)),.d (.v (.int .i64 0)),.d (.v (.int .i64 0)),.d (.v (.int .i64 0)),.d (.v (.int .i64 0)),.d (.v (.int .i64 0)),.d (.v (.int .i64 0)),.d (.v (.int .i64 0)),.d (.v (.int .i64 0)),.d (.v (.int .i64 0)),.d (.v (.int .i64 0)),.d (.v (.int .i64 0)),.d (.v (.int .i64 0)),.d (.v (.int .i64 0)),.d (.v (.int .i64 0)),.d (.v (.int .i64 0)),.d (.v (.int .i64 0)),.d (.v (.int .i64 0)),.d (.v (.int .i64 0)),.d (.v (.int .i64 0)),.d (.v (.int .i64 0)),.d (.v (.int .i64 0)),.d (.v (.int .i64 0)),.d (.v (.int .i64 0)),.d (.v (.int .i64 0)),.d (.v (.int .i64 0)),.d (.v (.int .i64 0)),.d (.v (.int .i64 0)),.d (.v (.int .i64 0)),.d (.v (.int .i64 0)),.d (.v (.int .i64 0)),.d (.v (.int .i64 0)),.d (.v (.int .i64 0)),.d (.v (.int .i64 0)),.d (.v (.int .i64 0)),.d (.v (.int .i64 0)),.d (.v (.int .i64 0)),.d (.v (.bool false)),.d (.v (.int .i64 0)),.d (.v (.int .i64 0)),.d (.v (.int .i64 0)),.d (.v (.slice none 0 0)),.d (.v (.slice none 0 0)),.d (.v (.slice none 0 0))]
theorem Dv_:(fkc fk0).map AV.d=zE:=by kernel_rfl
abbrev Ev_ (a b:List Sg) (r:R2):Bxs:=[(3,.cells 25 [.d (sgD a false)]),(4,.cells 25 [.d (sgD b false)]),(5,.cells 56 [.d (.v (.int .i64 r.1)),.d (.v (.int .i64 r.2))]),(6,.cells 66 ((fkc fk0).map .d))]
abbrev rfS (a b:List Sg) (r:R2) (L K:List Sg) (i:Nat):St:=mkS 50 [(3,.ptr 3 0),(4,.ptr 4 0),(5,.ptr 5 0),(6,.ptr 6 0),(8,.row 503),(9,.d (sgD L false)),(10,.d (.v (.int .i64 i)))] (Ev_ a b r++[(503,.row 63 61 K.length ((sgC K).map .d))])
theorem oc_ (l:List Sg) (hl:∀ p∈l,aL_ p) (hn:l.length≤900):Fun Tryz.prog 44 [.row 1000] [(1000,sgB l)] (.d (slK (frkL l))) [] fun _=>False :=
 aW_ 1000 (T:=63) (cs:=sgC l) (args':=[.row 1000]) (bi':=[(1000,sgB l)]) (rw_ l false hl (by omega)) rfl rfl trivial
theorem re_ (a b:List Sg) (r:R2) (ha:∀ p∈a,aL_ p) (hb:∀ p∈b,aL_ p) (hn:a.length+b.length≤900) (hr1:isI r.1) (hr2:isI r.2):Fn0 Tryz.prog 20 [lgD a false,lgD b false,rfD r] (.tup [.agg (fkc (fndR a b r)),.v (.bool (fndO a b r).isSome)]):=by
 have hab:∀ p∈a++b,aL_ p:=fun p hp=>by
  rcases List.mem_append.1 hp with h|h
  ·exact ha p h
  ·exact hb p h
 have hrk:∀ p∈ofR r (a++b),aL_ p:=fun p hp=>hab p (List.mem_filter.1 hp).1
 have hsa:=sgC_len ha
 have hsb:=sgC_len hb
 have hlen:(a++b).length=a.length+b.length:=List.length_append
 refine ac_ (pn:=ao_) aa_ Tryz.func20 rfl fun β0=>?_
 simp only[Tryz.f20]
 repeat(first|apply wG|(apply wR;simp -dsimp)|refine aI ?_)
 refine ak_ (fun m Z=>∃ i:Nat,m=(a++b).length-i∧i≤(a++b).length∧Z=rfS a b r (a++b) (ofR r ((a++b).take i)) i) (a++b).length (S0:=rfS a b r (a++b) [] 0)
  ((ae_ [] (S':=mkS 50 [(3,.ptr 3 0),(4,.ptr 4 0),(5,.ptr 5 0),(6,.ptr 6 0),(8,.row 12),(9,.row 19),(10,.d (.v (.int .i64 0)))] (Ev_ a b r++[(12,.row 63 61 0 []),(19,.row 63 61 (a++b).length ((sgC (a++b)).map .d))])) (by simp) (by rw[a2_,hlen];simp;rfl)).trans ((Wk.freeze (k:=19) (T:=63) (sz:=61) (n:=(a++b).length) (ds:=sgC (a++b)) (by simp)).trans (Wk.go [] 12 503 (by decide) (by simp) (by simp) (by simp[sgC])))) ⟨0,rfl,by omega,rfl⟩ ?_
 have hfa:frkL (ofR r (a++b))=(fndO a b r).toList:=ql_ (a++b) r
 have hfr:fndR a b r=(fndO a b r).getD fk0:=rfl
 have hofl:=kH_ r (a++b)
 rintro _ _ ⟨i,rfl,hi,rfl⟩
 generalize a++b=L at hab hrk hlen hi hfa hofl
 have hqq:=ik_ ha hb r
 generalize fndR a b r=q0 at hfr hqq
 generalize fndO a b r=o at hfa hfr
 simp -dsimp
 repeat(first|apply wG|(apply wR;simp -dsimp)|refine aI ?_)
 by_cases hil:i<L.length
 ·have h1:=bl_ hil hab
  have hp:=hab L[i] (List.getElem_mem hil)
  have hLC:=sgC_len hab
  have e1:IntKind.i64.wrap ((i:Int)+1)=((i+1:Nat):Int):=by rw[IntWalk.i64_in _ (by omega)];omega
  have htk:ofR r (L.take (i+1))=ofR r (L.take i)++if refS L[i]=r then [L[i]] else []:=by
   rw[List.take_succ_eq_append_getElem hil,ofR,List.filter_append]
   congr 1
   by_cases h:refS L[i]=r<;>simp[h]
  have hkl:(ofR r (L.take i)).length≤i:=by
   have:=kH_ r (L.take i)
   rw[List.length_take] at this;omega
  generalize L[i]=p at h1 hp htk
  generalize ofR r (L.take i)=K at htk hkl
  have lp:=az_ hp
  have p57:=b4_ p
  have p57D:=dh_ p
  have tp:=er_ hp
  have hof:=hU_ p.1
  refine cT (by simp;omega) ?_
  refine WP.skip ?_
  simp -dsimp
  repeat(first|apply wG|(apply wR;simp -dsimp[h1,p57,p57D])|refine aI ?_)
  refine af_ e3_ hof rfl rfl (And.intro (by simp[fD]) trivial) ?_
  simp -dsimp
  repeat(first|apply wG|(apply wR;simp -dsimp)|refine aI ?_)
  refine bq_ aa_ qd_ cH_ rfl (.inl rfl) (m:=5) (by omega) bv_ (by decide) bN_ nG_ (cs:=[.v (.int .i64 (refS p).1),.v (.int .i64 (refS p).2)]) (es:=[.v (.int .i64 r.1),.v (.int .i64 r.2)]) (by simp[refS,cA_]) (by simp) (bB_ (hp.1.1 0) (hp.1.1 1)) (bB_ hr1 hr2) (di_ (refS p) r) ?_
  simp -dsimp[eqRes]
  repeat(first|apply wG|(apply wR;simp -dsimp)|refine aI ?_)
  by_cases he:refS p=r
  ·rw[if_pos he] at htk
   have hset:∀ cs:List AV,cs.length=61→setL cs 0 ((sgc p).map AV.d)=(sgc p).map .d:=fun cs hc=>by
    rw[co_ _ _ _ (by rw[List.length_map];omega),List.take_zero,List.nil_append,List.length_map,List.drop_of_length_le (by omega),List.append_nil]
   refine cT (by simp[he]) ?_
   repeat(first|apply wG|(apply wR;simp -dsimp[h1,tp,hset])|refine aI ?_)
   refine And.intro ⟨lp,sgc_oneD hp⟩ ?_
   repeat(first|apply wG|(apply wR;simp -dsimp)|refine aI ?_)
   have hcat:sgC (K++[p])=sgC K++sgc p:=by rw[a2_];simp[sgC,sgc]
   refine loopW.next (rfS a b r L (ofR r (L.take (i+1))) (i+1)) (Wk.go [39,503] 40 503 (by decide) (by simp) (by simp[e1]) (by simp[htk,hcat])) (L.length-(i+1)) (by omega) ⟨i+1,rfl,by omega,rfl⟩
  ·rw[if_neg he,List.append_nil] at htk
   refine cF (by simp[he]) ?_
   refine WP.skip ?_
   simp -dsimp
   repeat(first|apply wG|(apply wR;simp -dsimp)|refine aI ?_)
   refine loopW.next (rfS a b r L (ofR r (L.take (i+1))) (i+1)) (ae_ [] (by simp[e1]) (by simp[htk])) (L.length-(i+1)) (by omega) ⟨i+1,rfl,by omega,rfl⟩
 ·rw[List.take_of_length_le (by omega)]
  refine cF (by simp;omega) ?_
  refine WP.exit ?_
  simp -dsimp
  repeat(first|apply wG|(apply wR;simp -dsimp)|refine aI ?_)
  generalize ofR r L=K at hrk hfa hofl
  have hfk:=oc_ K hrk (by omega)
  rw[hfa] at hfk
  refine vcStop.call o3_ (hfk) (rl [(1000,503)]) rfl rfl (by simp[BoxLeq]) (ai_ (by simp[BoxLeq]) rfl (by first|rfl|(simp[BoxLeq];done)) (by simp[BoxLeq]) (by simp[BoxLeq])) (fun _ h=>h.elim) (fun ⟨_,h⟩=>h.elim) (fun ⟨_,h⟩=>h.elim) (by simp[BoxLeq]) ?_
  simp -dsimp
  repeat(first|apply wG|(apply wR;simp -dsimp)|refine aI ?_)
  cases o with
  | none =>
   rw[hfr]
   refine cT (by simp) ?_
   rw[Dv_,zE]
   repeat(first|apply wG|(apply wR;simp -dsimp)|refine aI ?_)
   refine WP.ret (ab_ ?_)
   simp -dsimp
   exact (Leq.tup (l:=[.agg ((fkc fk0).map .d),.d (.v (.bool false))]) (l':=[.d (.agg (fkc fk0)),.d (.v (.bool false))]) ⟨ag_ (fkc fk0),.refl _,trivial⟩).trans (cd_ [.agg (fkc fk0),.v (.bool false)])
  | some q =>
   obtain rfl:q0=q:=hfr
   obtain⟨hqa,hqb⟩:=hqq
   have fl:=eS_ hqa hqb
   have fo:=gk_ hqa hqb
   have e1:fkC [q0]=fkc q0:=by simp[fkC]
   have ft:List.take 122 (fkc q0)=fkc q0:=List.take_of_length_le (by omega)
   refine cF (by simp) ?_
   refine WP.skip ?_
   have l0:(fkc fk0).length=122:=rfl
   have hs0:setL ((fkc fk0).map AV.d) 0 ((fkc q0).map AV.d)=(fkc q0).map .d:=by
    rw[co_ _ _ _ (by rw[List.length_map,List.length_map,l0,fl];omega),List.take_zero,List.nil_append,List.length_map,List.drop_of_length_le (by rw[List.length_map,l0,fl];omega),List.append_nil]
   simp -dsimp
   repeat(first|apply wG|(apply wR;simp -dsimp[e1,ft,fl,hs0,l0])|refine aI ?_)
   refine WP.ret (ab_ ?_)
   simp -dsimp[fl]
   rw[show List.take 122 ((fkc q0).map AV.d)=(fkc q0).map .d from List.take_of_length_le (by rw[List.length_map,fl];omega)]
   exact (Leq.tup (l:=[.agg ((fkc q0).map .d),.d (.v (.bool true))]) (l':=[.d (.agg (fkc q0)),.d (.v (.bool true))]) ⟨ag_ (fkc q0),.refl _,trivial⟩).trans (cd_ [.agg (fkc q0),.v (.bool true)])
end Go.Proofs.YtdjkbdhdejlakaaGreatDoor
