/-
  Joined texts.
-/
import Derived.Test.YtdjkbdhdejlakaaGreatDoorVA
import Derived.Test.YtdjkbdhdejlakaaGreatDoorVAC
set_option maxRecDepth 10000
set_option maxHeartbeats 4000000
set_option linter.unusedVariables false
set_option linter.unusedSimpArgs false
set_option linter.unusedSectionVars false
namespace Go.Proofs.YtdjkbdhdejlakaaGreatDoor
open Go.Xe Go.RowKit
theorem kx_ {H:Nat→Bool→Dg} (hl:∀ j b,(H j b).length=32):∀ n,(nz_ H n).length=64*n
 | 0=>rfl
 | n+1=>by rw[nz_,List.length_append,List.length_append,kx_ hl n,hl,hl];omega
theorem xm_ (s:ByteArray) (hs:s.size≤1000) (b:List UInt8) (hb:b.length≤90000):Fun Tryz.prog 123 [.d (.v (.string s)),.row 1000] [(1000,.row 5 1 b.length ((bys b).map .d))] (.d (dD (tagB s.data.toList b))) [] fun _=>False :=
 aW_ 1000 (T:=5) (cs:=bys b) (args':=[.d (.v (.string s)),.row 1000]) (bi':=[(1000,.row 5 1 b.length ((bys b).map .d))]) (jx_ s hs b hb) rfl rfl trivial
abbrev puS (g:Nat) (first caps:List D) (H:Nat→Bool→Dg) (j:Nat):St :=
 mkS 25 [(0,.fn (.func g) (first.map .d) (caps.map .d)),(2,.ptr 2 0),(3,.row 500),(8,.d (.v (.int .i64 j)))] [(2,.cells 74 ((bys z32).map .d)),(500,.row 5 1 (64*j) ((bys (nz_ H j)).map .d))]
theorem sL_ (g:Nat) (hb:Body Tryz.prog g) (first caps:List D) (H:Nat→Bool→Dg) (hH:∀ j,j<64→∀ b,Fn0 Tryz.prog g (first++([.v (.int .i64 j),.v (.bool b)]++caps)) (dD (H j b))) (hl:∀ j b,(H j b).length=32) :
  Fun Tryz.prog 122 [.fn (.func g) (first.map .d) (caps.map .d)] [] (.d (dD (pubB H))) [] fun _=>False:=by
 refine ac_ (pn:=ao_) aa_ Tryz.func122 rfl fun β0=>?_
 simp only[Tryz.f122]
 repeat(first|apply wG|(apply wR;simp -dsimp)|refine aI ?_)
 refine hD_ aa_ 7 rfl rfl rfl rfl rfl (by decide) (by decide) (by simp) ?_
 simp -dsimp
 repeat(first|apply wG|(apply wR;simp -dsimp)|refine aI ?_)
 refine ak_ (fun q S=>∃ j:Nat,q=64-j∧j≤64∧S=puS g first caps H j) 64 (S0:=puS g first caps H 0) (Wk.go [] 7 500 (by decide) (by simp) (by simp) (by simp[z32,bys,aS_,nz_])) ⟨0,rfl,by omega,rfl⟩ ?_
 rintro _ _ ⟨j,rfl,hj,rfl⟩
 simp -dsimp
 repeat(first|apply wG|(apply wR;simp -dsimp)|refine aI ?_)
 by_cases hj64:j<64
 ·refine cT (by simp;omega) ?_
  refine WP.skip ?_
  have e1:IntKind.i64.wrap ((j:Int)+1)=((j+1:Nat):Int):=by rw[IntWalk.i64_in _ (by omega)];omega
  have h0:=hH j hj64 false
  have h1:=hH j hj64 true
  have l0:=hl j false
  have l1:=hl j true
  have hpl:=kx_ hl j
  have hp1:nz_ H (j+1)=nz_ H j++(H j false++H j true):=rfl
  generalize H j false=x at *
  generalize H j true=y at *
  simp -dsimp
  repeat(first|apply wG|(apply wR;simp -dsimp)|refine aI ?_)
  refine af_ hb h0 rfl rfl (by simp) ?_
  simp -dsimp[dD]
  repeat(first|apply wG|(apply wR;simp -dsimp)|refine aI ?_)
  refine af_ hb h1 rfl rfl (by simp) ?_
  simp -dsimp[dD]
  refine And.intro ⟨l0,fun a h=>an_ h⟩ ?_
  repeat refine aI ?_
  refine And.intro ⟨l1,fun a h=>an_ h⟩ ?_
  repeat(first|apply wG|(apply wR;simp -dsimp[setL_whole,bys_len,l0,l1,bysA_take])|refine aI ?_)
  refine loopW.next (puS g first caps H (j+1)) (Wk.go [5,6,19] 21 500 (by decide) (by simp) (by simp[e1]) (by simp[hp1,bys_append];omega)) (64-(j+1)) (by omega) ⟨j+1,rfl,by omega,rfl⟩
 ·refine cF (by simp;omega) ?_
  refine WP.exit ?_
  obtain rfl:j=64:=by omega
  have hpl:=kx_ hl 64
  have ht:=xm_ ⟨#[111,110,101]⟩ (by decide) (nz_ H 64) (by omega)
  have hr:(pubB H).length=32:=ky_ H
  rw [show (⟨#[111, 110, 101]⟩ : ByteArray).data.toList = tB "one" by decide +kernel, show tagB (tB "one") (nz_ H 64) = pubB H from rfl] at ht
  generalize pubB H=r at *
  simp -dsimp
  repeat(first|apply wG|(apply wR;simp -dsimp)|refine aI ?_)
  refine vcStop.call bx_ (ht) (rl [(1000,500)]) rfl rfl (by simp[hpl,BoxLeq]) (ai_ (by simp[hpl,BoxLeq]) rfl (by first|rfl|(simp[hpl,BoxLeq];done)) (by simp[hpl,BoxLeq]) (by simp[hpl,BoxLeq])) (fun _ h=>h.elim) (fun ⟨_,h⟩=>h.elim) (fun ⟨_,h⟩=>h.elim) (by simp[hpl,BoxLeq]) ?_
  simp -dsimp[dD]
  refine And.intro ⟨hr,Nat.le_of_eq z32_len.symm,fun a h=>an_ h⟩ ?_
  repeat(first|apply wG|(apply wR;simp -dsimp[bys_len,hr])|refine aI ?_)
  refine WP.ret (ab_ ?_)
  simp -dsimp[setL_whole,bys_len,z32_len,hr,bysA_take]
  exact ag_ _
end Go.Proofs.YtdjkbdhdejlakaaGreatDoor
namespace Go.Proofs.YtdjkbdhdejlakaaGreatDoor
open Go.Xe Go.RowKit
theorem w9_ (f:List Bool) (i:Nat) (h:i<f.length):(boD f).drop i=.v (.bool (f.getD i false))::(boD f).drop (i+1):=by
 rw[List.drop_eq_getElem_cons (by rw[boD_len];exact h)]
 congr 1
 simp[boD,List.getD_eq_getElem?_getD,h]
def sigC (k:Int) (op cl pa:List Dg):List D:=[.v (.int .i64 k),slG op,slG cl,slG pa]
theorem xg_ (x:List Bool) (hx:x.length=64) (k:Int) (op cl pa:List Dg) (ho:op.length=64) (hc:cl.length=64) (h1:bf_ op) (h2:bf_ cl) (j:Nat) (hj:j<64) (b:Bool) :
  Fn0 Tryz.prog 119 [.v (.int .i64 j),.v (.bool b),.ip (boD x),.ip (sigC k op cl pa)] (dD (if x.getD j false=b then openB (digA op j) else digA cl j)):=by
 have ha:=w9_ x j (by omega)
 have ho32:=ds_ h1 j (by omega)
 have hc32:=ds_ h2 j (by omega)
 have hoa:=gB_ h1 j (by omega)
 have hca:=gB_ h2 j (by omega)
 have h46:=xO_ (digA op j) ho32
 have hl:(openB (digA op j)).length=32:=bh_ _ _
 have lo:=dt_ h1
 have lc:=dt_ h2
 generalize x.getD j false=y at *
 generalize openB (digA op j)=r at *
 refine ac_ (pn:=ao_) aa_ Tryz.func119 rfl fun β0=>?_
 simp only[Tryz.f119]
 repeat(first|apply wG|(apply wR;simp -dsimp[ha,boD_len,hx])|refine aI ?_)
 by_cases hyb:y=b
 ·rw[if_pos hyb]
  refine cT (by simp[hyb]) ?_
  repeat(first|apply wG|(apply wR;simp -dsimp[sigC,slG,hoa,ho,lo,bys_t32,ho32])|refine aI ?_)
  refine ad_ nk_ h46 rfl rfl (by simp[dD,bys_t32,ho32]) ?_
  simp -dsimp[dD]
  refine And.intro ⟨hl,fun a h=>an_ h⟩ ?_
  repeat(first|apply wG|(apply wR;simp -dsimp[bys_len,hl])|refine aI ?_)
  refine WP.ret (ab_ ?_)
  simp -dsimp[setL_whole,bys_len,hl,bysA_take]
  exact ag_ _
 ·rw[if_neg hyb]
  refine cF (by simp[hyb]) ?_
  refine WP.skip ?_
  simp -dsimp
  repeat(first|apply wG|(apply wR;simp -dsimp[sigC,slG,hca,hc,lc,bys_t32,hc32])|refine aI ?_)
  refine And.intro (fun a h=>an_ h) ?_
  repeat(first|apply wG|(apply wR;simp -dsimp[bys_len,hc32])|refine aI ?_)
  refine WP.ret (ab_ ?_)
  simp -dsimp[setL_whole,bys_len,hc32,bysA_take]
  exact ag_ _
def LB:List TypeId:=[5]
theorem Ey_:gOk aj_ LB=true:=by decide
theorem wS_:LB.all (fun t=>g8_ (aj_ t))=true:=by decide
theorem mQ_:Tryz.prog.keyTypeAt 4 5=true:=by kernel_rfl
theorem qL_:Tryz.prog.eqGuardType Tryz.prog.depth 74=false:=by kernel_rfl
def fy_ (d:Dg):List (List D):=d.map fun b=>[aS_ b]
theorem ce_ (d:Dg):(fy_ d).flatten=bys d:=by
 induction d with
 | nil=>rfl
 | cons b d ih=>rw[fy_,List.map_cons,List.flatten_cons,← fy_,ih];rfl
theorem hm_ (d:Dg):∀ c∈fy_ d,OkD aj_ 1 5 c:=fun c hc=>by
 obtain⟨b,_,rfl⟩:=List.mem_map.1 hc
 have:=b.toNat_lt
 simp only[OkD,uu_]
 exact⟨b.toNat,rfl,by simp[IntKind.min,IntKind.signed],by simp[IntKind.max,IntKind.signed,IntKind.bits];omega⟩
theorem pY_ (d:Dg):a6_ (bys d)=d.map fun b=>Lit.int .u8 (b.toNat:Int):=by
 rw[a6_,bys,List.flatMap_map]
 induction d with
 | nil=>rfl
 | cons b d ih=>rw[List.flatMap_cons,ih];rfl
theorem mf_ (a b:Dg):decide (a=b)=true↔a6_ (fy_ a).flatten=a6_ (fy_ b).flatten:=by
 rw[ce_,ce_,pY_,pY_,decide_eq_true_iff]
 refine⟨fun h=>by rw[h],fun h=>?_⟩
 have key:∀ a b:Dg,(a.map fun b=>Lit.int .u8 (b.toNat:Int))=(b.map fun b=>Lit.int .u8 (b.toNat:Int))→a=b:=by
  intro a
  induction a with
  | nil=>intro b h;cases b with
   | nil=>rfl
   | cons y b=>simp at h
  | cons x a ih=>intro b h;cases b with
   | nil=>simp at h
   | cons y b =>
    simp only[List.map_cons,List.cons.injEq,Lit.int.injEq,true_and] at h
    have hxy:x=y:=UInt8.toNat_inj.1 (by have:=h.1;omega)
    rw[ih b h.2,hxy]
 exact key a b h
theorem sa_ (root:Dg) (hr:root.length=32) (n:Int) (msg:List UInt8) (hm:msg.length≤65536) (k:Int) (op cl pa:List Dg) (ho:bf_ op) (hc:bf_ cl) (hp:bf_ pa) (hlo:op.length≤10000000000000) (hlc:cl.length≤10000000000000) (hlp:pa.length≤10000000000000) :
  Fn0 Tryz.prog 85 [dD root,.v (.int .i64 n),slB msg,.agg (sigC k op cl pa)] (.v (.bool (sealB root n msg k op cl pa))):=by
 refine ac_ (pn:=ao_) aa_ Tryz.func85 rfl fun β0=>?_
 simp only[Tryz.f85]
 repeat(first|apply wG|(apply wR;simp -dsimp[dD,sigC,slG,slB,bys_len,hr])|refine aI ?_)
 refine And.intro (fun a h=>an_ h) ?_
 repeat(first|apply wG|(apply wR;simp -dsimp)|refine aI ?_)
 by_cases hbad:n<1∨4096<n∨k<0∨n≤k∨op.length≠64∨cl.length≠64∨65536<msg.length
 ·unfold sealB
  rw[if_pos hbad]
  refine cT (by simp;omega) ?_
  repeat(first|apply wG|(apply wR;simp -dsimp)|refine aI ?_)
  refine WP.ret (ab_ ?_)
  simp -dsimp
 ·have h64:op.length=64∧cl.length=64∧1≤n∧n≤4096∧0≤k∧k<n:=by omega
  obtain⟨lo,lc,hn1,hn2,hk0,hkn⟩:=h64
  unfold sealB
  rw[if_neg hbad]
  refine cF (by simp;omega) ?_
  refine WP.skip ?_
  obtain⟨N,rfl⟩:∃ N:Nat,n=N:=⟨n.toNat,by omega⟩
  obtain⟨K,rfl⟩:∃ K:Nat,k=K:=⟨k.toNat,by omega⟩
  rw[Int.toNat_natCast,Int.toNat_natCast]
  have hsg:=sp_ root hr K (by omega) msg hm
  have lx:=pB_ root K msg
  have hxj:∀ j,j<64→(sgnB root K msg).getD j false=bitB root K msg j:=fun j hj=>by
   rw[sgnB,List.getD_eq_getElem?_getD,List.getElem?_map,List.getElem?_range hj];rfl
  generalize sgnB root K msg=x at *
  have hpb:pubB (tv_ root K msg op cl)=pubB (fun j b=>if x.getD j false=b then openB (digA op j) else digA cl j):=jH_ fun j hj b=>by rw[tv_,hxj j hj]
  rw[hpb]
  have hpu:=sL_ 119 nl_ [] [.ip (boD x),.ip (sigC K op cl pa)] (fun j b=>if x.getD j false=b then openB (digA op j) else digA cl j) (fun j hj b=>xg_ x lx K op cl pa lo lc ho hc j hj b) (fun j b=>by
   split
   ·exact bh_ _ _
   ·by_cases hjc:j<cl.length
    ·exact ds_ hc j hjc
    ·rw[digA,List.getD_eq_getElem?_getD,List.getElem?_eq_none (by omega)];rfl)
  have lp:=ky_ (fun j b=>if x.getD j false=b then openB (digA op j) else digA cl j)
  generalize pubB (fun j b=>if x.getD j false=b then openB (digA op j) else digA cl j)=P at *
  have hcl:=wd_ P lp K N (by omega) (by omega) pa hp hlp
  have hcb:=qA_ P K N pa (by omega) (by omega)
  have lcr:(climbR P K N pa).1.length=32:=by
   unfold climbR
   split
   ·exact j8_ _ _ _ (dY_ _)
   ·rfl
  have h01:(climbR P K N pa).2=0∨(climbR P K N pa).2=1:=by
   unfold climbR
   split
   ·exact .inl rfl
   ·exact .inr rfl
  rw[hcb]
  generalize climbR P K N pa=R at *
  obtain⟨r,e⟩:=R
  simp only at hcl lcr h01 ⊢
  simp -dsimp
  repeat(first|apply wG|(apply wR;simp -dsimp[bysA_take,hr])|refine aI ?_)
  refine af_ nm_ hsg rfl rfl (And.intro (by simp[bysA_take,hr];exact ag_ _) (And.intro (.refl _) (And.intro (.refl _) trivial))) ?_
  simp -dsimp[AP_]
  refine And.intro ⟨by rw[boD_len];exact lx,fun a h=>uc_ h⟩ ?_
  refine aw_ (aF_ (k:=9) (T:=195) (ds:=boD x) (by simp[setL_whole,boD_len,lx])) ?_
  simp -dsimp[ff_,fzc,cw_,kY_]
  refine aw_ (aF_ (k:=7) (T:=61) (ds:=sigC K op cl pa) (by simp[sigC,slG])) ?_
  simp -dsimp[ff_,fzc,cw_,kY_]
  repeat(first|apply wG|(apply wR;simp -dsimp)|refine aI ?_)
  refine vcStop.call ni_ (hpu) (rl []) rfl rfl (by simp[BoxLeq]) (ai_ (by simp[BoxLeq]) rfl (by first|rfl|(simp[BoxLeq];done)) (by simp[BoxLeq]) (by simp[BoxLeq])) (fun _ h=>h.elim) (fun ⟨_,h⟩=>h.elim) (fun ⟨_,h⟩=>h.elim) (by simp[BoxLeq]) ?_
  simp -dsimp[dD,sigC,slG]
  repeat(first|apply wG|(apply wR;simp -dsimp[sigC,slG])|refine aI ?_)
  refine ad_ nj_ hcl rfl rfl (by simp[dD,slG]) ?_
  simp -dsimp[dD]
  refine And.intro ⟨lcr,fun a h=>an_ h⟩ ?_
  rcases h01 with rfl|rfl
  ·repeat(first|apply wG|(apply wR;simp -dsimp[setL_whole,bys_len,lcr,bysA_take,hr])|refine aI ?_)
   refine hA_ aa_ Ey_ wS_ rfl (.inl rfl) (q:=4) (by omega) (T:=74) ll_ mQ_ (by decide) qL_ (cs:=fy_ r) (es:=fy_ root) (fun _=>by simp[ce_];try exact ag_ _) (fun _=>by simp[ce_];try exact ag_ _) (by simp[fy_,lcr]) (by simp[fy_,hr]) (hm_ r) (hm_ root) (mf_ r root) ?_
   simp -dsimp[eqRes]
   repeat(first|apply wG|(apply wR;simp -dsimp)|refine aI ?_)
   refine WP.ret (ab_ ?_)
   simp -dsimp
  ·repeat(first|apply wG|(apply wR;simp -dsimp[setL_whole,bys_len,lcr,bysA_take,hr])|refine aI ?_)
   refine vcStopG.skip (.d (.v (.bool false))) ?_
   simp -dsimp
   repeat(first|apply wG|(apply wR;simp -dsimp)|refine aI ?_)
   refine WP.ret (ab_ ?_)
   simp -dsimp
theorem v5_ {a b:List Dg} (h:a.length=b.length) (hg:∀ j,j<a.length→digA a j=digA b j):a=b:=by
 refine List.ext_getElem h fun i h1 h2=>?_
 have:=hg i h1
 unfold digA at this
 simpa [List.getD_eq_getElem?_getD,h1,h2] using this
abbrev Crw:=Dg×Int
def crX (c:Crw):List D:=bys c.1++[.v (.int .i64 c.2)]
def crC:List Crw→List D
 | []=>[]
 | c::l=>crX c++crC l
def crwD (l:List Crw):D:=.sl 33 (crC l) l.length false
def gC_ (c:Crw):Prop:=c.1.length=32∧isI c.2
theorem d3_ {c:Crw} (h:gC_ c):(crX c).length=33:=by rw[crX,List.length_append,bys_len,h.1];rfl
theorem eU_:∀ {l:List Crw},(∀ c∈l,gC_ c)→(crC l).length=l.length*33
 | [],_=>rfl
 | c::l,h=>by
  rw[crC,List.length_append,d3_ (h c (by simp)),eU_ fun x hx=>h x (by simp[hx]),List.length_cons]
  omega
theorem jY_:∀ (a b:List Crw),crC (a++b)=crC a++crC b
 | [],_=>rfl
 | d::a,b=>by rw[List.cons_append,crC,crC,jY_ a b,List.append_assoc]
theorem qy_ {l1:List Crw} {c:Crw} {l2:List Crw} (h:∀ x∈l1++c::l2,gC_ x):List.take 33 ((crC (l1++c::l2)).drop (l1.length*33))=crX c:=by
 rw[jY_,crC,List.drop_left' (eU_ fun x hx=>h x (by simp[hx])),List.take_left' (d3_ (h c (by simp)))]
theorem k7_ {c:Crw} {d:D} (h:d∈crX c):oneD d=true:=by
 rcases List.mem_append.1 h with h|h
 ·exact an_ h
 ·rw[List.mem_singleton] at h;subst h;rfl
theorem v9_ {c:Crw} (h:gC_ c):(crX c)[32]? = some (.v (.int .i64 c.2)):=by
 rw[crX,List.getElem?_append_right (by rw[bys_len,h.1];exact Nat.le_refl _),bys_len,h.1];rfl
def badC (c:Crw):Bool:=decide (c.2<1)||decide (4096<c.2)
def idxC:List Crw→Int→Int
 | [],_=>-1
 | c::l,i=>if badC c=true then i else idxC l (i+1)
theorem p9_:∀ (l:List Crw) (i:Int),0≤i→(0≤idxC l i↔l.any badC=true)
 | [],i,h=>by simp[idxC]
 | c::l,i,h=>by
  rw[idxC,List.any_cons]
  by_cases hb:badC c=true
  ·simp[hb,h]
  ·rw[if_neg hb,p9_ l (i+1) (by omega)]
   simp[hb]
theorem is_ {c:Crw} (h:gC_ c):atL ((crX c).map .d) 32=.d (.v (.int .i64 c.2)):=by
 rw[← b6_,List.getElem?_map,v9_ h];rfl
theorem tS_ (c:Crw) (h:gC_ c):Fn0 Tryz.prog 59 [.agg (crX c)] (.v (.bool (badC c))):=by
 have hl:=d3_ h
 have hm:=is_ h
 refine ac_ (pn:=ao_) aa_ Tryz.func59 rfl fun β0=>?_
 simp only[Tryz.f59]
 repeat(first|apply wG|(apply wR;simp -dsimp[hl])|refine aI ?_)
 refine And.intro (fun a h=>k7_ h) ?_
 repeat(first|apply wG|(apply wR;simp -dsimp[hl,hm])|refine aI ?_)
 refine WP.ret (ab_ ?_)
 simp -dsimp[badC]
abbrev Ee_:D:=.v (.func (.func 59) #[] #[])
abbrev crwS (l:List Crw) (i:Nat):St:=mkS 19 [(0,.d (crwD l)),(1,.d Ee_),(7,.d (.v (.int .i64 l.length))),(8,.d (.v (.int .i64 i)))] []
theorem tQ_ (l:List Crw) (hl:∀ c∈l,gC_ c) (hn:l.length≤1000000000000):Fn0 Tryz.prog 84 [crwD l,Ee_] (.v (.int .i64 (idxC l 0))):=by
 refine ac_ (pn:=ao_) aa_ Tryz.func84 rfl fun β0=>?_
 simp only[Tryz.f84]
 repeat(first|apply wG|(apply wR;simp -dsimp[crwD])|refine aI ?_)
 refine ak_ (fun q S=>∃ l1 l2,l=l1++l2∧q=l2.length∧idxC l 0=idxC l2 l1.length∧S=crwS l l1.length) l.length (S0:=crwS l 0) (ae_ [] (by simp[crwD]) (by simp)) ⟨[],l,rfl,rfl,rfl,rfl⟩ ?_
 rintro _ _ ⟨l1,l2,hl12,rfl,hix,rfl⟩
 rw[hix]
 simp -dsimp[crwD]
 repeat(first|apply wG|(apply wR;simp -dsimp)|refine aI ?_)
 cases l2 with
 | nil =>
  simp only[List.append_nil] at hl12
  subst hl12
  refine cF (by simp) ?_
  refine WP.exit ?_
  simp -dsimp
  repeat(first|apply wG|(apply wR;simp -dsimp)|refine aI ?_)
  refine WP.ret (ab_ ?_)
  simp -dsimp[idxC]
 | cons c l2 =>
  have hll:l.length=l1.length+(l2.length+1):=by rw[hl12];simp
  have hc:=hl c (by rw[hl12];simp)
  have hat:=qy_ (l1:=l1) (c:=c) (l2:=l2) (by rw[← hl12];exact hl)
  rw[← hl12] at hat
  have e1:IntKind.i64.wrap ((l1.length:Int)+1)=(l1.length:Int)+1:=IntWalk.i64_in _ (by omega)
  have hcl:=d3_ hc
  have ht33:List.take 33 (crX c)=crX c:=List.take_of_length_le (by omega)
  have hcc:=eU_ hl
  have hlt:l1.length<l.length:=by omega
  refine cT (by simp;omega) ?_
  refine WP.skip ?_
  simp -dsimp
  repeat(first|apply wG|(apply wR;simp -dsimp[hat,hcl,hlt,ht33])|refine aI ?_)
  refine ad_ oT_ (tS_ c hc) rfl rfl (by simp[hat,ht33]) ?_
  simp -dsimp
  repeat(first|apply wG|(apply wR;simp -dsimp)|refine aI ?_)
  rw[idxC]
  by_cases hb:badC c=true
  ·rw[if_pos hb]
   refine cT (by simp[hb]) ?_
   repeat(first|apply wG|(apply wR;simp -dsimp)|refine aI ?_)
   refine WP.ret (ab_ ?_)
   simp -dsimp
  ·rw[if_neg hb]
   refine cF (by simp[hb]) ?_
   refine WP.skip ?_
   simp -dsimp
   repeat(first|apply wG|(apply wR;simp -dsimp)|refine aI ?_)
   refine loopW.next (crwS l (l1++[c]).length) (ae_ [] (by simp[crwD,e1]) (by simp)) l2.length (by simp) ⟨l1++[c],l2,by simp[hl12],rfl,by first|(simp;done)|(rw[hix];simp[idxC,hb]),rfl⟩
theorem tR_ (l:List Crw) (hl:∀ c∈l,gC_ c) (hn:l.length≤1000000000000):Fn0 Tryz.prog 58 [crwD l,Ee_] (.v (.bool (l.any badC))):=by
 have h55:=tQ_ l hl hn
 have hi:=p9_ l 0 (Int.le_refl _)
 have e:decide (0≤idxC l 0)=l.any badC:=by rw[Bool.eq_iff_iff,decide_eq_true_iff];exact hi
 refine ac_ (pn:=ao_) aa_ Tryz.func58 rfl fun β0=>?_
 simp only[Tryz.f58]
 repeat(first|apply wG|(apply wR;simp -dsimp[crwD])|refine aI ?_)
 refine ad_ iD_ h55 rfl rfl (by simp[crwD]) ?_
 simp -dsimp
 repeat(first|apply wG|(apply wR;simp -dsimp)|refine aI ?_)
 refine WP.ret (ab_ ?_)
 simp -dsimp
 rw[e]
 exact .refl _
def crB (l:List Crw):Bool:=decide (l.length≤32) && !(l.any badC)
theorem dv_ (l:List Crw) (hl:∀ c∈l,gC_ c) (hn:l.length≤1000000000000):Fn0 Tryz.prog 32 [crwD l] (.v (.int .i64 (if crB l=true then 0 else 130))):=by
 have h28:=tR_ l hl hn
 refine ac_ (pn:=ao_) aa_ Tryz.func32 rfl fun β0=>?_
 simp only[Tryz.f32]
 repeat(first|apply wG|(apply wR;simp -dsimp[crwD])|refine aI ?_)
 refine ah_ iO_ (fun _=>h28) rfl (fun _=>rfl) (fun hg=>by simp[hg,crwD]) ?_
 simp -dsimp
 repeat(first|apply wG|(apply wR;simp -dsimp)|refine aI ?_)
 by_cases hb:crB l=true
 ·rw[if_pos hb]
  simp only[crB,Bool.and_eq_true,decide_eq_true_eq,Bool.not_eq_true'] at hb
  refine cF (by simp[hb.2];omega) ?_
  refine WP.skip ?_
  simp -dsimp
  repeat(first|apply wG|(apply wR;simp -dsimp)|refine aI ?_)
  refine WP.ret (ab_ ?_)
  simp -dsimp
 ·rw[if_neg hb]
  refine cT ?_ ?_
  ·simp only[crB,Bool.and_eq_true,decide_eq_true_eq,Bool.not_eq_true'] at hb
   cases ha:l.any badC
   ·have:¬ l.length≤32:=fun h=>hb ⟨h,ha⟩
    simp;omega
   ·simp
  ·repeat(first|apply wG|(apply wR;simp -dsimp)|refine aI ?_)
   refine WP.ret (ab_ ?_)
   simp -dsimp
end Go.Proofs.YtdjkbdhdejlakaaGreatDoor
