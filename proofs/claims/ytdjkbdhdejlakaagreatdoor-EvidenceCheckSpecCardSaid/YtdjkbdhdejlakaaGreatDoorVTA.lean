/-
  Joined texts.
-/
import Derived.Test.YtdjkbdhdejlakaaGreatDoorVU
import Derived.Test.YtdjkbdhdejlakaaGreatDoorVT
import Derived.Test.YtdjkbdhdejlakaaGreatDoorVO
import Derived.Test.YtdjkbdhdejlakaaGreatDoorVH
set_option maxRecDepth 10000
set_option maxHeartbeats 4000000
set_option linter.unusedVariables false
set_option linter.unusedSimpArgs false
set_option linter.unusedSectionVars false
namespace Go.Proofs.YtdjkbdhdejlakaaGreatDoor
open Go.Xe Go.RowKit
theorem pF_ (x:W) (n:Nat) (h:n=16∨n=12∨n=8∨n=7):Fn0 Tryz.prog 216 [.v (.int .u32 (wI x)),.v (.int .i64 n)] (.v (.int .u32 (wI (rr n x)))):=by
 have e2:IntKind.i64.wrap (32-(n:Int))=((32-n:Nat):Int):=by rcases h with rfl|rfl|rfl|rfl<;>decide
 have e3:shN .u32 ((32-n:Nat):Int)=32-n:=by rcases h with rfl|rfl|rfl|rfl<;>decide
 have e4:shN .u32 (n:Int)=n:=by rcases h with rfl|rfl|rfl|rfl<;>decide
 have e5:=uF_ x (32-n)
 have e6:=uE_ x n
 have e7:(x>>>n)|||(x<<<(32-n))=rr n x:=by rw[rr,BitVec.or_comm]
 have hn:n≤32:=by omega
 refine ac_ (pn:=ao_) aa_ Tryz.func216 rfl fun β0=>?_
 simp only[Tryz.f216]
 repeat(first|apply wG|(apply wR;simp -dsimp[e2,e3,e4,e5,e6,Cf_])|refine aI ?_)
 refine WP.ret (ab_ ?_)
 simp -dsimp[e7]
def m4 (a b c d x y:W):W×W×W×W :=
 ((a+b+x)+rr 12 (b^^^(c+rr 16 (d^^^(a+b+x))))+y,
  rr 7 (rr 12 (b^^^(c+rr 16 (d^^^(a+b+x))))^^^((c+rr 16 (d^^^(a+b+x)))+rr 8 (rr 16 (d^^^(a+b+x))^^^((a+b+x)+rr 12 (b^^^(c+rr 16 (d^^^(a+b+x))))+y)))),
  (c+rr 16 (d^^^(a+b+x)))+rr 8 (rr 16 (d^^^(a+b+x))^^^((a+b+x)+rr 12 (b^^^(c+rr 16 (d^^^(a+b+x))))+y)),
  rr 8 (rr 16 (d^^^(a+b+x))^^^((a+b+x)+rr 12 (b^^^(c+rr 16 (d^^^(a+b+x))))+y)))
def wD (x:W):D:=.v (.int .u32 (wI x))
theorem sH_ (a b c d x y:W):Fn0 Tryz.prog 214 [wD a,wD b,wD c,wD d,wD x,wD y] (.tup [wD (m4 a b c d x y).1,wD (m4 a b c d x y).2.1,wD (m4 a b c d x y).2.2.1,wD (m4 a b c d x y).2.2.2]):=by
 simp only[m4,wD]
 refine ac_ (pn:=ao_) aa_ Tryz.func214 rfl fun β0=>?_
 simp only[Tryz.f214]
 repeat(first|apply wG|(apply wR;simp -dsimp[fX_,cB_])|refine aI ?_)
 refine ad_ cN_ (pF_ (d^^^(a+b+x)) 16 (by omega)) rfl rfl (by simp) ?_
 simp -dsimp
 generalize rr 16 (d^^^(a+b+x))=d1
 generalize a+b+x=a1
 repeat(first|apply wG|(apply wR;simp -dsimp[fX_,cB_])|refine aI ?_)
 refine ad_ cN_ (pF_ (b^^^(c+d1)) 12 (by omega)) rfl rfl (by simp) ?_
 simp -dsimp
 generalize rr 12 (b^^^(c+d1))=b1
 generalize c+d1=c1
 repeat(first|apply wG|(apply wR;simp -dsimp[fX_,cB_])|refine aI ?_)
 refine ad_ cN_ (pF_ (d1^^^(a1+b1+y)) 8 (by omega)) rfl rfl (by simp) ?_
 simp -dsimp
 generalize rr 8 (d1^^^(a1+b1+y))=d2
 generalize a1+b1+y=a2
 repeat(first|apply wG|(apply wR;simp -dsimp[fX_,cB_])|refine aI ?_)
 refine ad_ cN_ (pF_ (b1^^^(c1+d2)) 7 (by omega)) rfl rfl (by simp) ?_
 simp -dsimp
 repeat(first|apply wG|(apply wR;simp -dsimp)|refine aI ?_)
 refine WP.ret (ab_ ?_)
 simp -dsimp
theorem fp_:Fn0 Tryz.prog 204 [] (.agg (u32L iniV)):=by
 refine ac_ (pn:=ao_) aa_ Tryz.func204 rfl fun β0=>?_
 simp only[Tryz.f204]
 repeat(first|apply wG|(apply wR;simp -dsimp)|refine aI ?_)
 refine WP.ret (ab_ ?_)
 simp -dsimp
 exact ag_ (u32L iniV)
abbrev hfS (n k:Nat):St:=mkS 11 [(0,.d (.v (.int .i64 n))),(3,.d (.v (.int .i64 k)))] []
theorem jF_ (n:Nat) (h1:1≤n) (hn:n≤65536):Fn0 Tryz.prog 202 [.v (.int .i64 n)] (.v (.int .i64 (halfN n))):=by
 refine ac_ (pn:=ao_) aa_ Tryz.func202 rfl fun β0=>?_
 simp only[Tryz.f202]
 repeat(first|apply wG|(apply wR;simp -dsimp)|refine aI ?_)
 refine ak_ (fun m S=>∃ j:Nat,(2^j<n∨j=0)∧m=n-2^j∧S=hfS n (2^j)) (n-1) (S0:=hfS n 1) (ae_ [] (by simp) (by simp)) ⟨0,.inr rfl,rfl,rfl⟩ ?_
 rintro _ _ ⟨j,hj,rfl,rfl⟩
 have hof:=vH_ n j hj
 have hp:0<2^j:=Nat.pow_pos (by decide)
 have hk1:2^j≤n:=by
  rcases hj with h|rfl
  ·omega
  ·simpa using h1
 have hnx:2*2^j<n→(2^(j+1)<n∨j+1=0):=fun h=>.inl (by rw[Nat.pow_succ];omega)
 have hs:2^(j+1)=2*2^j:=by rw[Nat.pow_succ];omega
 have e1:IntKind.i64.wrap (2*((2^j:Nat):Int))=((2*2^j:Nat):Int):=by rw[IntWalk.i64_in _ (by omega)];omega
 generalize hk:2^j=k at *
 simp -dsimp
 repeat(first|apply wG|(apply wR;simp -dsimp[e1])|refine aI ?_)
 by_cases h2:2*k<n
 ·refine cT (by simp;omega) ?_
  refine WP.skip ?_
  simp -dsimp
  repeat(first|apply wG|(apply wR;simp -dsimp[e1])|refine aI ?_)
  refine loopW.next (hfS n (2*k)) (ae_ [] (by simp) (by simp)) (n-2*k) (by omega) ⟨j+1,hnx h2,by rw[hs],by rw[hs]⟩
 ·refine cF (by simp;omega) ?_
  refine WP.exit ?_
  simp -dsimp
  repeat(first|apply wG|(apply wR;simp -dsimp)|refine aI ?_)
  rw[hof (by omega) h1]
  refine WP.ret (ab_ ?_)
  simp -dsimp
abbrev rcS (l:List Crw) (i:Nat):St:=mkS 27 [(0,.d (crwD l)),(3,.d (.v (.int .i64 i)))] []
theorem hV_ (l:List Crw) (hl:∀ c∈l,gC_ c) (hn:l.length≤1000000000000):Fn0 Tryz.prog 35 [crwD l] (.v (.int .i64 (if crB l=true then 0 else 130))):=by
 refine ac_ (pn:=ao_) aa_ Tryz.func35 rfl fun β0=>?_
 simp only[Tryz.f35]
 repeat(first|apply wG|(apply wR;simp -dsimp[crwD])|refine aI ?_)
 by_cases h32:32<l.length
 ·have hb:¬ crB l=true:=by
   intro h
   simp only[crB,Bool.and_eq_true,decide_eq_true_eq] at h
   omega
  rw[if_neg hb]
  refine cT (by simp;omega) ?_
  repeat(first|apply wG|(apply wR;simp -dsimp)|refine aI ?_)
  refine WP.ret (ab_ ?_)
  simp -dsimp
 ·refine cF (by simp;omega) ?_
  refine WP.skip ?_
  simp -dsimp
  repeat(first|apply wG|(apply wR;simp -dsimp)|refine aI ?_)
  refine ak_ (fun q S=>∃ l1 l2,l=l1++l2∧q=l2.length∧l1.any badC=false∧S=rcS l l1.length) l.length (S0:=rcS l 0) (ae_ [] (by simp[crwD]) (by simp)) ⟨[],l,rfl,rfl,rfl,rfl⟩ ?_
  rintro _ _ ⟨l1,l2,hl12,rfl,ha,rfl⟩
  simp -dsimp[crwD]
  repeat(first|apply wG|(apply wR;simp -dsimp)|refine aI ?_)
  cases l2 with
  | nil =>
   simp only[List.append_nil] at hl12
   subst hl12
   have hb:crB l=true:=by
    simp only[crB,Bool.and_eq_true,decide_eq_true_eq,Bool.not_eq_true']
    exact⟨by omega,ha⟩
   rw[if_pos hb]
   refine cF (by simp) ?_
   refine WP.exit ?_
   simp -dsimp
   repeat(first|apply wG|(apply wR;simp -dsimp)|refine aI ?_)
   refine WP.ret (ab_ ?_)
   simp -dsimp
  | cons c l2 =>
   have hll:l.length=l1.length+(l2.length+1):=by rw[hl12];simp
   have hc:=hl c (by rw[hl12];simp)
   have hat:=qy_ (l1:=l1) (c:=c) (l2:=l2) (by rw[← hl12];exact hl)
   rw[← hl12] at hat
   have e1:IntKind.i64.wrap ((l1.length:Int)+1)=(l1.length:Int)+1:=IntWalk.i64_in _ (by omega)
   have hcl:=d3_ hc
   have hm:=is_ hc
   have hcc:=eU_ hl
   have hlt:l1.length<l.length:=by omega
   have hce:(crX c)[32]'(by omega)=.v (.int .i64 c.2):=by
    have h:=v9_ hc
    rw[List.getElem?_eq_getElem (by omega)] at h
    exact Option.some.inj h
   have hC:(crC l)[l1.length*33+32]? = some (.v (.int .i64 c.2)):=by
    have h:(List.take 33 (List.drop (l1.length*33) (crC l)))[32]? = some (.v (.int .i64 c.2)):=by rw[hat];exact v9_ hc
    rw[List.getElem?_take,if_pos (by decide),List.getElem?_drop] at h
    exact h
   refine cT (by simp;omega) ?_
   refine WP.skip ?_
   simp -dsimp
   by_cases h1:c.2<1
   ·have d1:decide (c.2<1)=true:=decide_eq_true h1
    have hb:¬ crB l=true:=by
     intro h
     simp only[crB,Bool.and_eq_true,decide_eq_true_eq,Bool.not_eq_true'] at h
     rw[hl12,List.any_append,List.any_cons,badC,d1] at h
     simp at h
    repeat(first|apply wG|(apply wR;simp -dsimp[hat,hcl,hlt,hcc,hm,hce,hC,d1])|refine aI ?_)
    rw[if_neg hb]
    refine cT (by simp[d1]) ?_
    repeat(first|apply wG|(apply wR;simp -dsimp)|refine aI ?_)
    refine WP.ret (ab_ ?_)
    simp -dsimp
   ·have d1:decide (c.2<1)=false:=decide_eq_false h1
    repeat(first|apply wG|(apply wR;simp -dsimp[hat,hcl,hlt,hcc,hm,hce,hC,d1])|refine aI ?_)
    by_cases h2:4096<c.2
    ·have hb:¬ crB l=true:=by
      intro h
      simp only[crB,Bool.and_eq_true,decide_eq_true_eq,Bool.not_eq_true'] at h
      rw[hl12,List.any_append,List.any_cons,badC,decide_eq_true h2] at h
      simp at h
     rw[if_neg hb]
     refine cT (by simp[h2]) ?_
     repeat(first|apply wG|(apply wR;simp -dsimp)|refine aI ?_)
     refine WP.ret (ab_ ?_)
     simp -dsimp
    ·refine cF (by simp;omega) ?_
     refine WP.skip ?_
     simp -dsimp
     repeat(first|apply wG|(apply wR;simp -dsimp)|refine aI ?_)
     refine loopW.next (rcS l (l1++[c]).length) (ae_ [] (by simp[crwD,e1]) (by simp)) l2.length (by simp) ⟨l1++[c],l2,by simp[hl12],rfl,by rw[List.any_append,ha];simp[badC,h1,h2];try omega,rfl⟩
theorem ja_ (l:List Crw) (hl:∀ c∈l,gC_ c) (hn:l.length≤1000000000000) (f:Nat→Int) (hf:fOk f) (k:Int) (op cl pa:List Dg) (hs:sigG k op cl pa)
  (hmsg:(numF f).2=true→Fn0 Tryz.prog 90 [fD f] (slB (msgB f)))
  (hver:∀ root:Dg,root.length=32→∀ n:Int,Fn0 Tryz.prog 89 [dD root,.v (.int .i64 n),slB (msgB f),.agg (sigC k op cl pa)] (.v (.bool (sealB root n (msgB f) k op cl pa)))) :
  Fn0 Tryz.prog 62 [crwD l,.agg (fcs f 0 57++sigC k op cl pa)] (.v (.int .i64 (yZ_ l f k op cl pa))):=by
 have h34:=hV_ l hl hn
 have h72:=dj_ f hf
 rw[← (kJ_ hf).1] at h72
 have h57:List.take 57 (List.map AV.d (fcs f 0 57)++List.map AV.d (sigC k op cl pa))=(fcs f 0 57).map .d:=by
  rw[List.take_append,List.length_map,ax_,List.take_of_length_le (by rw[List.length_map,ax_];omega)]
  simp
 have hsl:(sigC k op cl pa).length=4:=rfl
 have a0:atL (List.map AV.d (fcs f 0 57)++List.map AV.d (sigC k op cl pa)) 0=.d (.v (.int .i64 (f 0))):=rfl
 have a1:atL (List.map AV.d (fcs f 0 57)++List.map AV.d (sigC k op cl pa)) 1=.d (.v (.int .i64 (f 1))):=rfl
 refine ac_ (pn:=ao_) aa_ Tryz.func62 rfl fun β0=>?_
 simp only[Tryz.f62]
 repeat(first|apply wG|(apply wR;simp -dsimp[hsl,crwD])|refine aI ?_)
 refine And.intro (fun c h=>?_) ?_
 ·rcases h with⟨a,ha,rfl⟩|⟨a,ha,rfl⟩
  ·exact fcs_side ha
  ·exact fk_ ha
 repeat(first|apply wG|(apply wR;simp -dsimp[crwD])|refine aI ?_)
 refine ad_ iP_ h34 rfl rfl (by simp[crwD]) ?_
 simp -dsimp
 repeat(first|apply wG|(apply wR;simp -dsimp)|refine aI ?_)
 unfold yZ_
 by_cases hcr:crB l=true
 ·rw[if_pos hcr]
  refine cT (by simp[hcr]) ?_
  repeat(first|apply wG|(apply wR;simp -dsimp[h57,hsl])|refine aI ?_)
  refine af_ dA_ h72 rfl rfl (And.intro (by simp;try exact ag_ _) trivial) ?_
  simp -dsimp
  repeat(first|apply wG|(apply wR;simp -dsimp)|refine aI ?_)
  by_cases hv:(numF f).2=true
  ·rw[if_pos hv]
   obtain⟨⟨hf0,_⟩,hf1,hf1'⟩:=wR_ hv
   refine cF (by simp[hv]) ?_
   refine WP.skip ?_
   simp -dsimp
   repeat(first|apply wG|(apply wR;simp -dsimp[a0,hsl])|refine aI ?_)
   by_cases h0:(l.length:Int)≤f 0
   ·rw[if_pos h0]
    refine cT (by simp;omega) ?_
    repeat(first|apply wG|(apply wR;simp -dsimp)|refine aI ?_)
    refine WP.ret (ab_ ?_)
    simp -dsimp
   ·rw[if_neg h0]
    refine cF (by simp;omega) ?_
    refine WP.skip ?_
    obtain⟨i,hi⟩:∃ i:Nat,f 0=i:=⟨(f 0).toNat,by omega⟩
    rw[hi,Int.toNat_natCast]
    have hil:i<l.length:=by omega
    obtain⟨hcat,hco⟩:=tU_ hl i hil
    have hcl:=d3_ hco
    have hcc:=eU_ hl
    have hcm:=is_ hco
    have hc32:List.take 32 ((crX (l.getD i (z32,0))).map AV.d)=(bys (l.getD i (z32,0)).1).map .d:=by
     rw[crX,List.map_append,List.take_left' (by rw[List.length_map,bys_len,hco.1])]
    have ht33:List.take 33 (crX (l.getD i (z32,0)))=crX (l.getD i (z32,0)):=List.take_of_length_le (by omega)
    have hk57:atL (List.map AV.d (fcs f 0 57)++List.map AV.d (sigC k op cl pa)) 57=.d (.v (.int .i64 k)):=by
     rw[← b6_,List.getElem?_append_right (by rw[List.length_map,ax_];exact Nat.le_refl _),List.length_map,ax_];rfl
    have hs4:List.take 4 (List.drop 57 (List.map AV.d (fcs f 0 57)++List.map AV.d (sigC k op cl pa)))=(sigC k op cl pa).map .d:=by
     rw[List.drop_left' (by rw[List.length_map,ax_])];rfl
    have h4:List.take 4 ((sigC k op cl pa).map AV.d)=(sigC k op cl pa).map .d:=rfl
    have e1:IntKind.i64.wrap (f 1-1)=f 1-1:=IntWalk.i64_in _ (by omega)
    have hm2:=hmsg hv
    have hml:=fC_ f
    have hv2:=hver (l.getD i (z32,0)).1 hco.1 (l.getD i (z32,0)).2
    generalize l.getD i (z32,0)=c at *
    generalize msgB f=m at *
    generalize sealB c.1 c.2 m k op cl pa=r at *
    simp -dsimp
    repeat(first|apply wG|(apply wR;simp -dsimp[a0,hi,hcat,hcl,hil,hcc,ht33,hsl])|refine aI ?_)
    refine And.intro (fun a h=>k7_ h) ?_
    by_cases hk:k=f 1-1
    ·have hkd:decide (k=f 1-1)=true:=decide_eq_true hk
     repeat(first|apply wG|(apply wR;simp -dsimp[hk57,hs4,h57,hcm,hc32,a1,e1,hkd,hcl,hsl])|refine aI ?_)
     refine av_ oD_ (fun _=>hm2) rfl (fun _=>rfl) (fun _=>And.intro (by simp;try exact ag_ _) trivial) ?_
     simp -dsimp
     repeat(first|apply wG|(apply wR;simp -dsimp[hk57,hs4,h57,hcm,hc32,e1,hkd,hcl,hsl])|refine aI ?_)
     refine av_ oE_ (fun _=>hv2) rfl (fun _=>rfl) (fun _=>And.intro (by simp;try exact ag_ _) (And.intro (by simp) (And.intro (by simp) (And.intro (by simp[h4];try exact ag_ _) trivial)))) ?_
     simp -dsimp
     repeat(first|apply wG|(apply wR;simp -dsimp)|refine aI ?_)
     cases r with
     | true =>
      rw[if_pos ⟨hk,rfl⟩]
      refine cF (by simp) ?_
      refine WP.skip ?_
      simp -dsimp
      repeat(first|apply wG|(apply wR;simp -dsimp)|refine aI ?_)
      refine WP.ret (ab_ ?_)
      simp -dsimp
     | false =>
      rw[if_neg fun h=>by cases h.2]
      refine cT (by simp) ?_
      repeat(first|apply wG|(apply wR;simp -dsimp)|refine aI ?_)
      refine WP.ret (ab_ ?_)
      simp -dsimp
    ·have hkd:decide (k=f 1-1)=false:=decide_eq_false hk
     repeat(first|apply wG|(apply wR;simp -dsimp[hk57,hs4,h57,hcm,hc32,a1,e1,hkd,hcl,hsl])|refine aI ?_)
     refine vcStopG.skip (.d (.v (.slice none 0 0))) ?_
     simp -dsimp
     repeat(first|apply wG|(apply wR;simp -dsimp[hk57,hs4,h57,hcm,hc32,e1,hkd,hcl,hsl])|refine aI ?_)
     refine vcStopG.skip (.d (.v (.bool false))) ?_
     simp -dsimp
     repeat(first|apply wG|(apply wR;simp -dsimp)|refine aI ?_)
     rw[if_neg fun h=>hk h.1]
     refine cT (by simp) ?_
     repeat(first|apply wG|(apply wR;simp -dsimp)|refine aI ?_)
     refine WP.ret (ab_ ?_)
     simp -dsimp
  ·rw[if_neg hv]
   refine cT (by simp[hv]) ?_
   repeat(first|apply wG|(apply wR;simp -dsimp)|refine aI ?_)
   refine WP.ret (ab_ ?_)
   simp -dsimp[hv]
 ·rw[if_neg hcr]
  refine cF (by simp[hcr]) ?_
  refine WP.skip ?_
  simp -dsimp
  repeat(first|apply wG|(apply wR;simp -dsimp)|refine aI ?_)
  refine cT (by simp[hcr]) ?_
  repeat(first|apply wG|(apply wR;simp -dsimp)|refine aI ?_)
  refine WP.ret (ab_ ?_)
  simp -dsimp[hcr]
end Go.Proofs.YtdjkbdhdejlakaaGreatDoor
