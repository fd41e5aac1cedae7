/-
  Joined texts.
-/
import Derived.Test.YtdjkbdhdejlakaaGreatDoorVTJ
import Derived.Test.YtdjkbdhdejlakaaGreatDoorVTE
import Derived.Test.YtdjkbdhdejlakaaGreatDoorV9
import Derived.Test.YtdjkbdhdejlakaaGreatDoorVTN
import Derived.Test.YtdjkbdhdejlakaaGreatDoorVAC
import Derived.Test.YtdjkbdhdejlakaaGreatDoorVO
set_option linter.unusedVariables false
set_option linter.unusedSimpArgs false
set_option linter.unusedSectionVars false
namespace Go.Proofs.YtdjkbdhdejlakaaGreatDoor
open Go.Xe Go.RowKit
def jN_ (f:Nat→Bool→Dg):Nat→List Dg
 | 0=>[]
 | j+1=>jN_ f j++[f j false,f j true]
theorem qa_ (f:Nat→Bool→Dg):∀ j,(jN_ f j).length=2*j
 | 0=>rfl
 | j+1=>by rw[jN_,List.length_append,qa_ f j];simp;omega
theorem mk_ (f:Nat→Bool→Dg):∀ j,(jN_ f j).flatten=nz_ f j
 | 0=>rfl
 | j+1=>by rw[jN_,List.flatten_append,mk_ f j,nz_];simp
theorem tu_ {f:Nat→Bool→Dg} (h:∀ j b,(f j b).length=32):∀ j,bf_ (jN_ f j)
 | 0=>fun d hd=>by cases hd
 | j+1=>fun d hd=>by
  rcases List.mem_append.1 hd with hd|hd
  ·exact tu_ h j d hd
  ·simp at hd
   rcases hd with rfl|rfl
   ·exact h _ _
   ·exact h _ _
theorem vF_ (f : Nat → Bool → Dg) : tagB (tB "one") (jN_ f 64).flatten = pubB f := by rw [mk_]; rfl
theorem yG_ (d:Dg) (i n:Nat) (p:List Dg) (h1:1≤n):y7_ d i n p=climbR d i n p:=by
 unfold y7_ climbR
 by_cases h:p.length=(fR_ i n).length
 ·rw[if_pos h,if_pos h,it_ n d i n p (Nat.le_refl _) h1 h]
 ·rw[if_neg h,if_neg h]
theorem zx_ {a b:Dg} (ha:a.length=32) (hb:b.length=32) (Z:List AV) (hZ:Z.length=64):setL (setL Z 0 ((bys a).map .d)) 32 ((bys b).map .d)=(bys a).map .d++(bys b).map .d:=by
 have la:((bys a).map AV.d).length=32:=by rw[List.length_map,bys_len,ha]
 have lb:((bys b).map AV.d).length=32:=by rw[List.length_map,bys_len,hb]
 have e:setL Z 0 ((bys a).map AV.d)=(bys a).map .d++Z.drop 32:=by
  rw[co_ _ _ _ (by omega),List.take_zero,List.nil_append,la]
 rw[e,co_ _ _ _ (by simp[la,lb,hZ]),lb,List.take_left' la,List.drop_of_length_le (by simp[bys_len,ha,hZ]),List.append_nil]
abbrev vrS (x:List Bool) (n:Int) (root:Dg) (sg:List D) (f:Nat→Bool→Dg) (j:Nat):St :=
 mkS 108 [(1,.d (.v (.int .i64 n))),(4,.ptr 4 0),(7,.ptr 7 0),(9,.d (.sl 1 (boD x) 64 false)),(10,.row 500),(11,.d (.v (.int .i64 j)))]
  [(4,.cells 74 ((bys root).map .d)),(7,.cells 61 (sg.map .d)),(500,.row 74 32 (2*j) ((dgL (jN_ f j)).map .d))]
set_option maxRecDepth 10000 in
set_option maxHeartbeats 4000000 in
theorem kl_ (hsum:∀ b:List UInt8,b.length≤100000→Fn0 Tryz.prog 182 [slB b] (dD (hL_ b))) (root:Dg) (hr:root.length=32) (n:Int) (msg:List UInt8) (hm:msg.length≤65536) (k:Int) (op cl pa:List Dg) (ho:bf_ op) (hc:bf_ cl) (hp:bf_ pa) (hlo:op.length≤10000000000000) (hlc:cl.length≤10000000000000) (hlp:pa.length≤10000000000000) :
  Fn0 Tryz.prog 89 [dD root,.v (.int .i64 n),slB msg,.agg (sigC k op cl pa)] (.v (.bool (sealB root n msg k op cl pa))):=by
 refine ac_ (pn:=ao_) aa_ Tryz.func89 rfl fun β0=>?_
 simp only[Tryz.f89]
 repeat(first|apply wG|(apply wR;simp -dsimp[dD,sigC,slG,slB,bys_len,hr])|refine aI ?_)
 refine And.intro (fun a h=>an_ h) ?_
 repeat(first|apply wG|(apply wR;simp -dsimp)|refine aI ?_)
 by_cases hbad:n<1∨4096<n∨k<0∨n≤k∨op.length≠64∨cl.length≠64∨65536<msg.length
 ·unfold sealB
  rw[if_pos hbad]
  refine cT (by simp;omega) ?_
  repeat(first|apply wG|(apply wR;simp -dsimp)|refine aI ?_)
  refine WP.ret (ab_ ?_)
  simp -dsimp
 ·have h64:op.length=64∧cl.length=64∧1≤n∧n≤4096∧0≤k∧k<n:=by omega
  obtain⟨lo,lc,hn1,hn2,hk0,hkn⟩:=h64
  unfold sealB
  rw[if_neg hbad]
  refine cF (by simp;omega) ?_
  refine WP.skip ?_
  obtain⟨N,rfl⟩:∃ N:Nat,n=N:=⟨n.toNat,by omega⟩
  obtain⟨K,rfl⟩:∃ K:Nat,k=K:=⟨k.toNat,by omega⟩
  rw[Int.toNat_natCast,Int.toNat_natCast]
  have hsg:=rg_ hsum root hr K (by omega) msg hm
  have lx:=pB_ root K msg
  have hxj:∀ j,j<64→(sgnB root K msg).getD j false=bitB root K msg j:=fun j hj=>by
   rw[sgnB,List.getD_eq_getElem?_getD,List.getElem?_map,List.getElem?_range hj];rfl
  generalize sgnB root K msg=x at *
  have hpb:pubB (tv_ root K msg op cl)=pubB (fun j b=>if x.getD j false=b then openB (digA op j) else digA cl j):=jH_ fun j hj b=>by rw[tv_,hxj j hj]
  rw[hpb]
  obtain⟨f,hf⟩:∃ f:Nat→Bool→Dg,(fun j b=>if x.getD j false=b then openB (digA op j) else digA cl j)=f:=⟨_,rfl⟩
  have hfj:∀ j b,f j b=if x.getD j false=b then openB (digA op j) else digA cl j:=fun j b=>by rw[← hf]
  have hf32:∀ j b,(f j b).length=32:=fun j b=>by
   rw[hfj]
   split
   ·exact bh_ _ _
   ·by_cases hjc:j<cl.length
    ·exact ds_ hc j hjc
    ·rw[digA,List.getD_eq_getElem?_getD,List.getElem?_eq_none (by omega)];rfl
  rw[hf]
  have lh:=qa_ f
  have h32:=tu_ hf32
  have hon:=sF_ hsum (jN_ f 64) (h32 64) (by rw[lh];omega)
  rw[vF_,slG,show (jN_ f 64).length=128 from lh 64] at hon
  have lp:=ky_ f
  have honr:Fun Tryz.prog 129 [.row 1000] [(1000,.row 74 32 128 ((dgL (jN_ f 64)).map .d))] (.d (dD (pubB f))) [] fun _=>False:=aW_ 1000 (T:=74) (cs:=dgL (jN_ f 64)) (args':=[.row 1000]) (bi':=[(1000,.row 74 32 128 ((dgL (jN_ f 64)).map .d))]) hon rfl rfl trivial
  generalize pubB f=P at *
  have hcl:=nT_ hsum P lp N K pa (by omega) (by omega) (by omega) hp hlp
  rw[yG_ P K N pa (by omega)] at hcl
  have hcb:=qA_ P K N pa (by omega) (by omega)
  have lcr:(climbR P K N pa).1.length=32:=by
   unfold climbR
   split
   ·exact j8_ _ _ _ (dY_ _)
   ·rfl
  have h01:(climbR P K N pa).2=0∨(climbR P K N pa).2=1:=by
   unfold climbR
   split
   ·exact .inl rfl
   ·exact .inr rfl
  rw[hcb]
  generalize climbR P K N pa=R at *
  obtain⟨r,e⟩:=R
  simp only at hcl lcr h01 ⊢
  simp -dsimp
  repeat(first|apply wG|(apply wR;simp -dsimp[bysA_take,hr])|refine aI ?_)
  refine af_ ng_ hsg rfl rfl (And.intro (by simp[dD,bysA_take,hr];try exact ag_ _) (And.intro (.refl _) (And.intro (by simp[slB]) trivial))) ?_
  simp -dsimp
  repeat(first|apply wG|(apply wR;simp -dsimp)|refine aI ?_)
  refine ak_ (fun q S=>∃ j:Nat,q=64-j∧j≤64∧S=vrS x N root (sigC K op cl pa) f j) 64 (S0:=vrS x N root (sigC K op cl pa) f 0) (Wk.go [] 53 500 (by decide) (by simp) (by simp) (by simp[sigC,slG,jN_,dgL])) ⟨0,rfl,by omega,rfl⟩ ?_
  rintro _ _ ⟨j,rfl,hj,rfl⟩
  simp -dsimp
  repeat(first|apply wG|(apply wR;simp -dsimp)|refine aI ?_)
  by_cases hj64:j<64
  ·refine cT (by simp;omega) ?_
   refine WP.skip ?_
   have e1:IntKind.i64.wrap ((j:Int)+1)=((j+1:Nat):Int):=by rw[IntWalk.i64_in _ (by omega)];omega
   have ha:=w9_ x j (by omega)
   have hg:=AO_ x j (by omega)
   have ho32:=ds_ ho j (by omega)
   have hc32:=ds_ hc j (by omega)
   have hoa:=gB_ ho j (by omega)
   have hca:=gB_ hc j (by omega)
   have h126:=rc_ hsum (digA op j) ho32
   have hl:(openB (digA op j)).length=32:=bh_ _ _
   have lO:=dt_ ho
   have lC:=dt_ hc
   have hnx:jN_ f (j+1)=jN_ f j++[f j false,f j true]:=rfl
   have hf0:=hfj j false
   have hf1:=hfj j true
   have lhj:=lh j
   have ldj:=dt_ (h32 j)
   rw[hf0,hf1] at hnx
   generalize x.getD j false=y at *
   generalize openB (digA op j)=r1 at *
   generalize digA op j=o1 at *
   generalize digA cl j=c1 at *
   have hoaM:List.take 32 (List.drop (j*32) ((dgL op).map AV.d))=(bys o1).map .d:=by rw[← List.map_drop,← List.map_take,hoa]
   have hcaM:List.take 32 (List.drop (j*32) ((dgL cl).map AV.d))=(bys c1).map .d:=by rw[← List.map_drop,← List.map_take,hca]
   have tc:=bysA_take c1 hc32
   have t1:=bysA_take r1 hl
   simp -dsimp
   repeat(first|apply wG|(apply wR;simp -dsimp[ha,hg,boD_len,lx,hj64])|refine aI ?_)
   cases y with
   | true =>
    simp only[Bool.true_eq_false,if_false,if_true] at hnx
    have hsn:dgL (jN_ f (j+1))=dgL (jN_ f j)++(bys c1++bys r1):=by rw[hnx,en_,dgL,dgL,dgL,List.append_nil]
    refine cT (by simp) ?_
    repeat(first|apply wG|(apply wR;simp -dsimp[sigC,slG,hoa,hca,lo,lc,lO,lC,hj64,bys_t32,ho32,hc32])|refine aI ?_)
    refine af_ gV_ h126 rfl rfl (And.intro (by simp[dD,bys_t32,bys_t32L,ho32];try exact ag_ _) trivial) ?_
    simp -dsimp[dD,bys_len,hl,hc32,setL_length,zx_ hc32 hl,hcaM,tc,t1]
    refine And.intro ⟨fun a h=>an_ h,fun a h=>an_ h⟩ ?_
    repeat(first|apply wG|(apply wR;simp -dsimp)|refine aI ?_)
    refine loopW.next (vrS x N root (sigC K op cl pa) f (j+1)) (Wk.go [74] 75 500 (by decide) (by simp) (by simp[e1]) (by simp[sigC,slG,lo,lc,hsn];try omega)) (64-(j+1)) (by omega) ⟨j+1,rfl,by omega,rfl⟩
   | false =>
    simp only[Bool.false_eq_true,if_false,if_true] at hnx
    have hsn:dgL (jN_ f (j+1))=dgL (jN_ f j)++(bys r1++bys c1):=by rw[hnx,en_,dgL,dgL,dgL,List.append_nil]
    refine cF (by simp) ?_
    repeat(first|apply wG|(apply wR;simp -dsimp[sigC,slG,hoa,hca,lo,lc,lO,lC,hj64,bys_t32,ho32,hc32])|refine aI ?_)
    refine af_ gV_ h126 rfl rfl (And.intro (by simp[dD,bys_t32,bys_t32L,ho32];try exact ag_ _) trivial) ?_
    simp -dsimp[dD,bys_len,hl,hc32,setL_length,zx_ hl hc32,hcaM,tc,t1]
    repeat(first|apply wG|(apply wR;simp -dsimp)|refine aI ?_)
    refine And.intro ⟨fun a h=>an_ h,fun a h=>an_ h⟩ ?_
    repeat(first|apply wG|(apply wR;simp -dsimp)|refine aI ?_)
    refine loopW.next (vrS x N root (sigC K op cl pa) f (j+1)) (Wk.go [88] 89 500 (by decide) (by simp) (by simp[e1]) (by simp[sigC,slG,lo,lc,hsn];try omega)) (64-(j+1)) (by omega) ⟨j+1,rfl,by omega,rfl⟩
  ·refine cF (by simp;omega) ?_
   refine WP.exit ?_
   obtain rfl:j=64:=by omega
   simp -dsimp[sigC,slG]
   repeat(first|apply wG|(apply wR;simp -dsimp[sigC,slG])|refine aI ?_)
   refine vcStop.call ne_ (honr) (rl [(1000,500)]) rfl rfl (by simp[BoxLeq]) (ai_ (by simp[BoxLeq]) rfl (by first|rfl|(simp[BoxLeq];done)) (by simp[BoxLeq]) (by simp[BoxLeq])) (fun _ h=>h.elim) (fun ⟨_,h⟩=>h.elim) (fun ⟨_,h⟩=>h.elim) (by simp[BoxLeq]) ?_
   simp -dsimp[dD]
   repeat(first|apply wG|(apply wR;simp -dsimp[slG])|refine aI ?_)
   refine ad_ nf_ hcl rfl rfl (by simp[dD,slG]) ?_
   simp -dsimp[dD]
   refine And.intro ⟨lcr,fun a h=>an_ h⟩ ?_
   rcases h01 with rfl|rfl
   ·repeat(first|apply wG|(apply wR;simp -dsimp[setL_whole,bys_len,lcr,bysA_take,hr])|refine aI ?_)
    refine hA_ aa_ Ey_ wS_ rfl (.inl rfl) (q:=4) (by omega) (T:=74) ll_ mQ_ (by decide) qL_ (cs:=fy_ r) (es:=fy_ root) (fun _=>by simp[ce_];try exact ag_ _) (fun _=>by simp[ce_];try exact ag_ _) (by simp[fy_,lcr]) (by simp[fy_,hr]) (hm_ r) (hm_ root) (mf_ r root) ?_
    simp -dsimp[eqRes]
    repeat(first|apply wG|(apply wR;simp -dsimp)|refine aI ?_)
    refine WP.ret (ab_ ?_)
    simp -dsimp
   ·repeat(first|apply wG|(apply wR;simp -dsimp[setL_whole,bys_len,lcr,bysA_take,hr])|refine aI ?_)
    refine vcStopG.skip (.d (.v (.bool false))) ?_
    simp -dsimp
    repeat(first|apply wG|(apply wR;simp -dsimp)|refine aI ?_)
    refine WP.ret (ab_ ?_)
    simp -dsimp
theorem kk_ (l:List Crw) (hl:∀ c∈l,gC_ c) (hn:l.length≤1000000000000) (p:Sg) (hf:fOk p.1) (hT:sgT p):Fn0 Tryz.prog 62 [crwD l,sgV p] (.v (.int .i64 (wB_ l p))):=by
 obtain⟨k,op,cl,pa,e,hg⟩:=hT
 rw[r9_ e hg,sgV,sgc,e]
 exact ja_ l hl hn p.1 hf k op cl pa hg (fun _=>sG_ lR_ p.1 hf) fun root hr n=>kl_ lR_ root hr n (msgB p.1) (by rw[fC_];decide) k op cl pa hg.ho hg.hc hg.hp hg.no hg.nc hg.np
end Go.Proofs.YtdjkbdhdejlakaaGreatDoor
