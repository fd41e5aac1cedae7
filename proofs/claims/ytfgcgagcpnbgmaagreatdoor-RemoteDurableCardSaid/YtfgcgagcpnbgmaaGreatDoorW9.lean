/-
  Joined texts.
-/
import Derived.Test.YtfgcgagcpnbgmaaGreatDoorWA
import Derived.Test.YtfgcgagcpnbgmaaGreatDoorWEngCr
set_option maxRecDepth 10000
set_option maxHeartbeats 4000000
set_option linter.unusedVariables false
set_option linter.unusedSimpArgs false
set_option linter.unusedSectionVars false
namespace Go.Proofs.YtfgcgagcpnbgmaaGreatDoor
open Go.Xe Go.RowKit
theorem j2_ {H:Nat→Bool→Dg} (hl:∀ j b,(H j b).length=32):∀ n,(oU_ H n).length=64*n
 | 0=>rfl
 | n+1=>by rw[oU_,List.length_append,List.length_append,j2_ hl n,hl,hl];omega
theorem wD_ (s:ByteArray) (hs:s.size≤1000) (b:List UInt8) (hb:b.length≤90000):Fun Tryz.prog 120 [.d (.v (.string s)),.row 1000] [(1000,.row 5 1 b.length ((bys b).map .d))] (.d (dD (tagB s.data.toList b))) [] fun _=>False :=
 b1_ 1000 (T:=5) (cs:=bys b) (args':=[.d (.v (.string s)),.row 1000]) (bi':=[(1000,.row 5 1 b.length ((bys b).map .d))]) (fV_ s hs b hb) rfl rfl trivial
abbrev puS (g:Nat) (first caps:List D) (H:Nat→Bool→Dg) (j:Nat):St :=
 mkS 25 [(0,.fn (.func g) (first.map .d) (caps.map .d)),(2,.ptr 2 0),(3,.row 500),(8,.d (.v (.int .i64 j)))] [(2,.cells 87 ((bys z32).map .d)),(500,.row 5 1 (64*j) ((bys (oU_ H j)).map .d))]
theorem lp_ (g:Nat) (hb:Body Tryz.prog g) (first caps:List D) (H:Nat→Bool→Dg) (hH:∀ j,j<64→∀ b,Fn0 Tryz.prog g (first++([.v (.int .i64 j),.v (.bool b)]++caps)) (dD (H j b))) (hl:∀ j b,(H j b).length=32) :
  Fun Tryz.prog 124 [.fn (.func g) (first.map .d) (caps.map .d)] [] (.d (dD (pubB H))) [] fun _=>False:=by
 refine ad_ (pn:=ap_) aa_ Tryz.func124 rfl fun β0=>?_
 simp only[Tryz.f124]
 repeat(first|apply wG|(apply wR;simp -dsimp)|refine aI ?_)
 refine hr_ aa_ 7 rfl rfl rfl rfl rfl (by decide) (by decide) (by simp) ?_
 simp -dsimp
 repeat(first|apply wG|(apply wR;simp -dsimp)|refine aI ?_)
 refine ai_ (fun q S=>∃ j:Nat,q=64-j∧j≤64∧S=puS g first caps H j) 64 (S0:=puS g first caps H 0) (Wk.go [] 7 500 (by decide) (by simp) (by simp) (by simp[z32,bys,aN_,oU_])) ⟨0,rfl,by omega,rfl⟩ ?_
 rintro _ _ ⟨j,rfl,hj,rfl⟩
 simp -dsimp
 repeat(first|apply wG|(apply wR;simp -dsimp)|refine aI ?_)
 by_cases hj64:j<64
 ·refine cT (by simp;omega) ?_
  refine WP.skip ?_
  have e1:IntKind.i64.wrap ((j:Int)+1)=((j+1:Nat):Int):=by rw[IntWalk.i64_in _ (by omega)];omega
  have h0:=hH j hj64 false
  have h1:=hH j hj64 true
  have l0:=hl j false
  have l1:=hl j true
  have hpl:=j2_ hl j
  have hp1:oU_ H (j+1)=oU_ H j++(H j false++H j true):=rfl
  generalize H j false=x at *
  generalize H j true=y at *
  simp -dsimp
  repeat(first|apply wG|(apply wR;simp -dsimp)|refine aI ?_)
  refine al_ hb h0 rfl rfl (by simp) ?_
  simp -dsimp[dD]
  repeat(first|apply wG|(apply wR;simp -dsimp)|refine aI ?_)
  refine al_ hb h1 rfl rfl (by simp) ?_
  simp -dsimp[dD]
  refine And.intro ⟨l0,fun a h=>ao_ h⟩ ?_
  repeat refine aI ?_
  refine And.intro ⟨l1,fun a h=>ao_ h⟩ ?_
  repeat(first|apply wG|(apply wR;simp -dsimp[setL_whole,bys_len,l0,l1,bysA_take])|refine aI ?_)
  refine loopW.next (puS g first caps H (j+1)) (Wk.go [5,6,19] 21 500 (by decide) (by simp) (by simp[e1]) (by simp[hp1,bys_append];omega)) (64-(j+1)) (by omega) ⟨j+1,rfl,by omega,rfl⟩
 ·refine cF (by simp;omega) ?_
  refine WP.exit ?_
  obtain rfl:j=64:=by omega
  have hpl:=j2_ hl 64
  have ht:=wD_ ⟨#[111,110,101]⟩ (by decide) (oU_ H 64) (by omega)
  have hr:(pubB H).length=32:=gY_ H
  rw [show (⟨#[111, 110, 101]⟩ : ByteArray).data.toList = tB "one" by decide +kernel, show tagB (tB "one") (oU_ H 64) = pubB H from rfl] at ht
  generalize pubB H=r at *
  simp -dsimp
  repeat(first|apply wG|(apply wR;simp -dsimp)|refine aI ?_)
  refine vcStop.call a1_ (ht) (rl [(1000,500)]) rfl rfl (by simp[hpl,BoxLeq]) (af_ (by simp[hpl,BoxLeq]) rfl (by first|rfl|(simp[hpl,BoxLeq];done)) (by simp[hpl,BoxLeq]) (by simp[hpl,BoxLeq])) (fun _ h=>h.elim) (fun ⟨_,h⟩=>h.elim) (fun ⟨_,h⟩=>h.elim) (by simp[hpl,BoxLeq]) ?_
  simp -dsimp[dD]
  refine And.intro ⟨hr,Nat.le_of_eq z32_len.symm,fun a h=>ao_ h⟩ ?_
  repeat(first|apply wG|(apply wR;simp -dsimp[bys_len,hr])|refine aI ?_)
  refine WP.ret (ac_ ?_)
  simp -dsimp[setL_whole,bys_len,z32_len,hr,bysA_take]
  exact am_ _
theorem qU_ (a b c:List UInt8) (hf:a.length+b.length+c.length≤100000):Fun Tryz.prog 188 [.row 1000] [(1000,.row 22 1 3 [.d (slB a),.d (slB b),.row 1001]),(1001,.row 5 1 c.length ((bys c).map .d))] (.d (slB (a++(b++c)))) [] fun _=>False:=by
 have h:=dU_ [a,b,c] (by simp) (by simp[catB];omega)
 have e:catB [a,b,c]=a++(b++c):=by simp[catB]
 rw[e] at h
 refine b1_ 1001 (T:=5) (cs:=bys c) (args':=[.row 1000]) (bi':=[(1000,.row 22 1 3 [.d (slB a),.d (slB b),.row 1001]),(1001,.row 5 1 c.length ((bys c).map .d))]) h rfl rfl ?_
 simp[lsB,slB]
def onD (seed:List UInt8) (i:Nat):D:=.agg [slB seed,.v (.int .i64 i)]
theorem lj_ (seed:List UInt8) (hs:seed.length≤1000) (i:Nat) (hi:i≤65535) (j:Nat) (hj:j<64) (b:Bool) :
  Fn0 Tryz.prog 160 [onD seed i,.v (.int .i64 j),.v (.bool b)] (dD (secretB seed i j b)):=by
 have h63:=rs_ i hi
 have l2:(tT_ i).length=2:=rfl
 obtain⟨tw,htw⟩:∃ t,tT_ i=t:=⟨_,rfl⟩
 rw[htw] at h63 l2
 obtain⟨x,hx⟩:∃ x:List UInt8,[UInt8.ofNat j,if b=true then 1 else 0]=x:=⟨_,rfl⟩
 have lx:x.length=2:=by rw[← hx];rfl
 have hbx:bys x=[.v (.int .u8 (j:Int)),.v (.int .u8 (if b=true then 1 else 0))]:=by
  rw[← hx]
  simp only[bys,List.map_cons,List.map_nil,aN_,UInt8.toNat_ofNat']
  congr 3
  ·congr 1
   omega
  ·cases b<;>rfl
 have h60:=qU_ seed tw x (by omega)
 rw[lx,hbx] at h60
 have ht:=fV_ ⟨#[115,101,99,114,101,116]⟩ (by decide) (seed++(tw++x)) (by simp;omega)
 rw [show (⟨#[115, 101, 99, 114, 101, 116]⟩ : ByteArray).data.toList = tB "secret" by decide +kernel] at ht
 have hl : (tagB (tB "secret") (seed ++ (tw ++ x))).length = 32 := aT_ _ _
 rw [show secretB seed i j b = tagB (tB "secret") (seed ++ (tw ++ x)) by rw [secretB, htw, hx]]
 have e1:IntKind.u8.wrap (j:Int)=(j:Int):=by rw[IntKind.wrap_u8];omega
 generalize tagB (tB "secret") (seed ++ (tw ++ x)) = r at *
 refine ad_ (pn:=ap_) aa_ Tryz.func160 rfl fun β0=>?_
 simp only[Tryz.f160]
 repeat(first|apply wG|(apply wR;simp -dsimp[onD,slB])|refine aI ?_)
 refine Am_ (mkS 21 [(1,.d (.v (.int .i64 j))),(3,.ptr 3 0),(6,.ptr 6 0),(7,.d (.v (.int .u8 (if b=true then 1 else 0))))] [(3,.cells 190 [.d (slB seed),.d (.v (.int .i64 i))]),(6,.cells 87 ((bys z32).map .d))]) ?_ ?_
 ·refine WP.cond (b:=b) (by simp) (fun hb=>?_) (fun hb=>?_)
  ·repeat(first|apply wG|(apply wR;simp -dsimp)|refine aI ?_)
   exact aI_ (ae_ [] (by simp[hb]) (by simp[slB,z32,bys,aN_]))
  ·refine WP.skip ?_
   exact aI_ (ae_ [] (by simp[hb]) (by simp[slB,z32,bys,aN_]))
 simp -dsimp[slB]
 repeat(first|apply wG|(apply wR;simp -dsimp[slB])|refine aI ?_)
 refine ab_ gc_ h63 rfl rfl (by simp) ?_
 simp -dsimp[slB]
 repeat(first|apply wG|(apply wR;simp -dsimp[slB,e1])|refine aI ?_)
 refine vcStop.call cx_ (h60) (rl [(1000,18),(1001,17)]) rfl rfl (by simp[slB,e1,BoxLeq]) (af_ (by simp[slB,e1,BoxLeq]) rfl (by first|rfl|(simp[slB,e1,BoxLeq];done)) (by simp[slB,e1,BoxLeq]) (by simp[slB,e1,BoxLeq])) (fun _ h=>h.elim) (fun ⟨_,h⟩=>h.elim) (fun ⟨_,h⟩=>h.elim) (by simp[slB,e1,BoxLeq]) ?_
 simp -dsimp[slB]
 repeat(first|apply wG|(apply wR;simp -dsimp)|refine aI ?_)
 refine ab_ a1_ ht rfl rfl (by simp[slB]) ?_
 simp -dsimp[dD]
 refine And.intro ⟨hl,Nat.le_of_eq z32_len.symm,fun a h=>ao_ h⟩ ?_
 repeat(first|apply wG|(apply wR;simp -dsimp[bys_len,hl])|refine aI ?_)
 refine WP.ret (ac_ ?_)
 simp -dsimp[setL_whole,bys_len,z32_len,hl,bysA_take]
 exact am_ _
theorem sM_ (seed:List UInt8) (hs:seed.length≤1000) (i:Nat) (hi:i≤65535) (j:Nat) (hj:j<64) (b:Bool) :
  Fn0 Tryz.prog 125 [onD seed i,.v (.int .i64 j),.v (.bool b)] (dD (keyH seed i j b)):=by
 have h40:=lj_ seed hs i hi j hj b
 have lh:(secretB seed i j b).length=32:=aT_ _ _
 have h46:=se_ (secretB seed i j b) lh
 have hl:(keyH seed i j b).length=32:=aT_ _ _
 rw[show openB (secretB seed i j b)=keyH seed i j b from rfl] at h46
 generalize keyH seed i j b=r at *
 generalize secretB seed i j b=d at *
 refine ad_ (pn:=ap_) aa_ Tryz.func125 rfl fun β0=>?_
 simp only[Tryz.f125]
 repeat(first|apply wG|(apply wR;simp -dsimp[onD,slB])|refine aI ?_)
 refine ab_ gj_ h40 rfl rfl (by simp[onD,slB]) ?_
 simp -dsimp
 repeat(first|apply wG|(apply wR;simp -dsimp)|refine aI ?_)
 refine ab_ go_ h46 rfl rfl (by simp[dD]) ?_
 simp -dsimp[dD]
 refine And.intro ⟨hl,fun a h=>ao_ h⟩ ?_
 repeat(first|apply wG|(apply wR;simp -dsimp[bys_len,hl])|refine aI ?_)
 refine WP.ret (ac_ ?_)
 simp -dsimp[setL_whole,bys_len,hl,bysA_take]
 exact am_ _
theorem wq_ (f:List Bool) (i:Nat) (h:i<f.length):(boD f).drop i=.v (.bool (f.getD i false))::(boD f).drop (i+1):=by
 rw[List.drop_eq_getElem_cons (by rw[boD_len];exact h)]
 congr 1
 simp[boD,List.getD_eq_getElem?_getD,h]
def cz_ (k:Int) (op cl pa:List Dg):List D:=[.v (.int .i64 k),slG op,slG cl,slG pa]
theorem wy_ (x:List Bool) (hx:x.length=64) (k:Int) (op cl pa:List Dg) (ho:op.length=64) (hc:cl.length=64) (h1:aY_ op) (h2:aY_ cl) (j:Nat) (hj:j<64) (b:Bool) :
  Fn0 Tryz.prog 129 [.v (.int .i64 j),.v (.bool b),.ip (boD x),.ip (cz_ k op cl pa)] (dD (if x.getD j false=b then openB (digA op j) else digA cl j)):=by
 have ha:=wq_ x j (by omega)
 have ho32:=cl_ h1 j (by omega)
 have hc32:=cl_ h2 j (by omega)
 have hoa:=eb_ h1 j (by omega)
 have hca:=eb_ h2 j (by omega)
 have h46:=se_ (digA op j) ho32
 have hl:(openB (digA op j)).length=32:=aT_ _ _
 have lo:=bq_ h1
 have lc:=bq_ h2
 generalize x.getD j false=y at *
 generalize openB (digA op j)=r at *
 refine ad_ (pn:=ap_) aa_ Tryz.func129 rfl fun β0=>?_
 simp only[Tryz.f129]
 repeat(first|apply wG|(apply wR;simp -dsimp[ha,boD_len,hx])|refine aI ?_)
 by_cases hyb:y=b
 ·rw[if_pos hyb]
  refine cT (by simp[hyb]) ?_
  repeat(first|apply wG|(apply wR;simp -dsimp[cz_,slG,hoa,ho,lo,bN_,ho32])|refine aI ?_)
  refine ab_ go_ h46 rfl rfl (by simp[dD,bN_,ho32]) ?_
  simp -dsimp[dD]
  refine And.intro ⟨hl,fun a h=>ao_ h⟩ ?_
  repeat(first|apply wG|(apply wR;simp -dsimp[bys_len,hl])|refine aI ?_)
  refine WP.ret (ac_ ?_)
  simp -dsimp[setL_whole,bys_len,hl,bysA_take]
  exact am_ _
 ·rw[if_neg hyb]
  refine cF (by simp[hyb]) ?_
  refine WP.skip ?_
  simp -dsimp
  repeat(first|apply wG|(apply wR;simp -dsimp[cz_,slG,hca,hc,lc,bN_,hc32])|refine aI ?_)
  refine And.intro (fun a h=>ao_ h) ?_
  repeat(first|apply wG|(apply wR;simp -dsimp[bys_len,hc32])|refine aI ?_)
  refine WP.ret (ac_ ?_)
  simp -dsimp[setL_whole,bys_len,hc32,bysA_take]
  exact am_ _
def LB:List TypeId:=[5]
theorem Dk_:gOk ag_ LB=true:=by decide
theorem sr_:LB.all (fun t=>gK_ (ag_ t))=true:=by decide
theorem ik_:Tryz.prog.keyTypeAt 4 5=true:=by kernel_rfl
theorem vU_:Tryz.prog.eqGuardType Tryz.prog.depth 87=false:=by kernel_rfl
def de_ (d:Dg):List (List D):=d.map fun b=>[aN_ b]
theorem bB_ (d:Dg):(de_ d).flatten=bys d:=by
 induction d with
 | nil=>rfl
 | cons b d ih=>rw[de_,List.map_cons,List.flatten_cons,← de_,ih];rfl
theorem dL_ (d:Dg):∀ c∈de_ d,OkD ag_ 1 5 c:=fun c hc=>by
 obtain⟨b,_,rfl⟩:=List.mem_map.1 hc
 have:=b.toNat_lt
 simp only[OkD,tL_]
 exact⟨b.toNat,rfl,by simp[IntKind.min,IntKind.signed],by simp[IntKind.max,IntKind.signed,IntKind.bits];omega⟩
theorem pd_ (d:Dg):bc_ (bys d)=d.map fun b=>Lit.int .u8 (b.toNat:Int):=by
 rw[bc_,bys,List.flatMap_map]
 induction d with
 | nil=>rfl
 | cons b d ih=>rw[List.flatMap_cons,ih];rfl
theorem hZ_ (a b:Dg):decide (a=b)=true↔bc_ (de_ a).flatten=bc_ (de_ b).flatten:=by
 rw[bB_,bB_,pd_,pd_,decide_eq_true_iff]
 refine⟨fun h=>by rw[h],fun h=>?_⟩
 have key:∀ a b:Dg,(a.map fun b=>Lit.int .u8 (b.toNat:Int))=(b.map fun b=>Lit.int .u8 (b.toNat:Int))→a=b:=by
  intro a
  induction a with
  | nil=>intro b h;cases b with
   | nil=>rfl
   | cons y b=>simp at h
  | cons x a ih=>intro b h;cases b with
   | nil=>simp at h
   | cons y b =>
    simp only[List.map_cons,List.cons.injEq,Lit.int.injEq,true_and] at h
    have hxy:x=y:=UInt8.toNat_inj.1 (by have:=h.1;omega)
    rw[ih b h.2,hxy]
 exact key a b h
theorem rn_ (root:Dg) (hr:root.length=32) (n:Int) (msg:List UInt8) (hm:msg.length≤65536) (k:Int) (op cl pa:List Dg) (ho:aY_ op) (hc:aY_ cl) (hp:aY_ pa) (hlo:op.length≤10000000000000) (hlc:cl.length≤10000000000000) (hlp:pa.length≤10000000000000) :
  Fn0 Tryz.prog 75 [dD root,.v (.int .i64 n),slB msg,.agg (cz_ k op cl pa)] (.v (.bool (sealB root n msg k op cl pa))):=by
 refine ad_ (pn:=ap_) aa_ Tryz.func75 rfl fun β0=>?_
 simp only[Tryz.f75]
 repeat(first|apply wG|(apply wR;simp -dsimp[dD,cz_,slG,slB,bys_len,hr])|refine aI ?_)
 refine And.intro (fun a h=>ao_ h) ?_
 repeat(first|apply wG|(apply wR;simp -dsimp)|refine aI ?_)
 by_cases hbad:n<1∨4096<n∨k<0∨n≤k∨op.length≠64∨cl.length≠64∨65536<msg.length
 ·unfold sealB
  rw[if_pos hbad]
  refine cT (by simp;omega) ?_
  repeat(first|apply wG|(apply wR;simp -dsimp)|refine aI ?_)
  refine WP.ret (ac_ ?_)
  simp -dsimp
 ·have h64:op.length=64∧cl.length=64∧1≤n∧n≤4096∧0≤k∧k<n:=by omega
  obtain⟨lo,lc,hn1,hn2,hk0,hkn⟩:=h64
  unfold sealB
  rw[if_neg hbad]
  refine cF (by simp;omega) ?_
  refine WP.skip ?_
  obtain⟨N,rfl⟩:∃ N:Nat,n=N:=⟨n.toNat,by omega⟩
  obtain⟨K,rfl⟩:∃ K:Nat,k=K:=⟨k.toNat,by omega⟩
  rw[Int.toNat_natCast,Int.toNat_natCast]
  have hsg:=la_ root hr K (by omega) msg hm
  have lx:=oJ_ root K msg
  have hxj:∀ j,j<64→(sgnB root K msg).getD j false=bitB root K msg j:=fun j hj=>by
   rw[sgnB,List.getD_eq_getElem?_getD,List.getElem?_map,List.getElem?_range hj];rfl
  generalize sgnB root K msg=x at *
  have hpb:pubB (sN_ root K msg op cl)=pubB (fun j b=>if x.getD j false=b then openB (digA op j) else digA cl j):=i9_ fun j hj b=>by rw[sN_,hxj j hj]
  rw[hpb]
  have hpu:=lp_ 129 mB_ [] [.ip (boD x),.ip (cz_ K op cl pa)] (fun j b=>if x.getD j false=b then openB (digA op j) else digA cl j) (fun j hj b=>wy_ x lx K op cl pa lo lc ho hc j hj b) (fun j b=>by
   split
   ·exact aT_ _ _
   ·by_cases hjc:j<cl.length
    ·exact cl_ hc j hjc
    ·rw[digA,List.getD_eq_getElem?_getD,List.getElem?_eq_none (by omega)];rfl)
  have lp:=gY_ (fun j b=>if x.getD j false=b then openB (digA op j) else digA cl j)
  generalize pubB (fun j b=>if x.getD j false=b then openB (digA op j) else digA cl j)=P at *
  have hcl:=vC_ P lp K N (by omega) (by omega) pa hp hlp
  have hcb:=vD_ P K N pa (by omega) (by omega)
  have lcr:(climbR P K N pa).1.length=32:=by
   unfold climbR
   split
   ·exact m5_ _ _ _ (e1_ _)
   ·rfl
  have h01:(climbR P K N pa).2=0∨(climbR P K N pa).2=1:=by
   unfold climbR
   split
   ·exact .inl rfl
   ·exact .inr rfl
  rw[hcb]
  generalize climbR P K N pa=R at *
  obtain⟨r,e⟩:=R
  simp only at hcl lcr h01 ⊢
  simp -dsimp
  repeat(first|apply wG|(apply wR;simp -dsimp[bysA_take,hr])|refine aI ?_)
  refine al_ gp_ hsg rfl rfl (And.intro (by simp[bysA_take,hr];exact am_ _) (And.intro (.refl _) (And.intro (.refl _) trivial))) ?_
  simp -dsimp[bitsD]
  refine And.intro ⟨by rw[boD_len];exact lx,fun a h=>tx_ h⟩ ?_
  refine an_ (aZ_ (k:=9) (T:=194) (ds:=boD x) (by simp[setL_whole,boD_len,lx])) ?_
  simp -dsimp[gM_,fzc,d1_,re_]
  refine an_ (aZ_ (k:=7) (T:=80) (ds:=cz_ K op cl pa) (by simp[cz_,slG])) ?_
  simp -dsimp[gM_,fzc,d1_,re_]
  repeat(first|apply wG|(apply wR;simp -dsimp)|refine aI ?_)
  refine vcStop.call gr_ (hpu) (rl []) rfl rfl (by simp[BoxLeq]) (af_ (by simp[BoxLeq]) rfl (by first|rfl|(simp[BoxLeq];done)) (by simp[BoxLeq]) (by simp[BoxLeq])) (fun _ h=>h.elim) (fun ⟨_,h⟩=>h.elim) (fun ⟨_,h⟩=>h.elim) (by simp[BoxLeq]) ?_
  simp -dsimp[dD,cz_,slG]
  repeat(first|apply wG|(apply wR;simp -dsimp[cz_,slG])|refine aI ?_)
  refine ab_ mA_ hcl rfl rfl (by simp[dD,slG]) ?_
  simp -dsimp[dD]
  refine And.intro ⟨lcr,fun a h=>ao_ h⟩ ?_
  rcases h01 with rfl|rfl
  ·repeat(first|apply wG|(apply wR;simp -dsimp[setL_whole,bys_len,lcr,bysA_take,hr])|refine aI ?_)
   refine m1_ aa_ Dk_ sr_ rfl (.inl rfl) (q:=4) (by omega) (T:=87) kR_ ik_ (by decide) vU_ (cs:=de_ r) (es:=de_ root) (fun _=>by simp[bB_];try exact am_ _) (fun _=>by simp[bB_];try exact am_ _) (by simp[de_,lcr]) (by simp[de_,hr]) (dL_ r) (dL_ root) (hZ_ r root) ?_
   simp -dsimp[eqRes]
   repeat(first|apply wG|(apply wR;simp -dsimp)|refine aI ?_)
   refine WP.ret (ac_ ?_)
   simp -dsimp
  ·repeat(first|apply wG|(apply wR;simp -dsimp[setL_whole,bys_len,lcr,bysA_take,hr])|refine aI ?_)
   refine vcStopG.skip (.d (.v (.bool false))) ?_
   simp -dsimp
   repeat(first|apply wG|(apply wR;simp -dsimp)|refine aI ?_)
   refine WP.ret (ac_ ?_)
   simp -dsimp
theorem tc_:∀ {l:List Dg} (i:Nat) (y:Dg),aY_ l→y.length=32→i<l.length→(dgL l).take (i*32)++bys y++(dgL l).drop (i*32+32)=dgL (l.set i y)
 | [],i,y,_,_,h=>by simp at h
 | d::l,0,y,h,hy,_=>by
  rw[List.set_cons_zero,dgL,dgL,Nat.zero_mul,List.take_zero,List.nil_append,Nat.zero_add,List.drop_left' (by rw[bys_len,h d (by simp)])]
 | d::l,i+1,y,h,hy,hi=>by
  have hd:=h d (by simp)
  rw[List.set_cons_succ,dgL,dgL,← tc_ i y (fun x hx=>h x (by simp[hx])) hy (by simpa using hi),List.take_append,List.drop_append,bys_len,hd,List.take_of_length_le (by rw[bys_len,hd];omega),List.drop_of_length_le (by rw[bys_len,hd];omega),List.nil_append,show (i+1)*32-32=i*32 by omega,show (i+1)*32+32-32=i*32+32 by omega]
  simp
theorem eN_:∀ (xs cs:List AV) (off:Nat),off+xs.length≤cs.length→setL cs off xs=cs.take off++xs++cs.drop (off+xs.length)
 | [],cs,off,_=>by simp[setL]
 | x::xs,cs,off,h=>by
  simp only[List.length_cons] at h
  rw[setL,eN_ xs (cs.set off x) (off+1) (by simp;omega)]
  have ho:off<cs.length:=by omega
  rw[List.set_eq_take_append_cons_drop,if_pos ho]
  have hl:(cs.take off).length=off:=by simp;omega
  have e1:(cs.take off++x::cs.drop (off+1)).take (off+1)=cs.take off++[x]:=by
   rw[List.take_append,hl,List.take_of_length_le (by omega),show off+1-off=1 by omega];rfl
  have e2:(cs.take off++x::cs.drop (off+1)).drop (off+1+xs.length)=cs.drop (off+(xs.length+1)):=by
   rw[List.drop_append,hl,List.drop_of_length_le (by omega),List.nil_append,show off+1+xs.length-off=xs.length+1 by omega,List.drop_succ_cons,List.drop_drop]
   congr 1;omega
  rw[e1,e2]
  simp
theorem td_ {l:List Dg} (i:Nat) (y:Dg) (h:aY_ l) (hy:y.length=32) (hi:i<l.length):setL ((dgL l).map .d) (i*32) ((bys y).map .d)=(dgL (l.set i y)).map .d:=by
 have hl:=bq_ h
 rw[eN_ _ _ _ (by rw[List.length_map,List.length_map,bys_len,hl,hy];omega),← tc_ i y h hy hi,List.length_map,bys_len,hy]
 simp
theorem te_ {l:List Dg} (i:Nat) (h:aY_ l) (hi:i<l.length):List.take 32 (List.drop (i*32) ((dgL l).map AV.d))=(bys (digA l i)).map .d:=by
 rw[← eb_ h i hi,List.map_take,List.map_drop]
theorem lY_ {l:List Dg} (h:aY_ l) (i:Nat) (y:Dg) (hy:y.length=32):aY_ (l.set i y):=fun d hd=>by
 rcases List.mem_or_eq_of_mem_set hd with h1|rfl
 ·exact h d h1
 ·exact hy
theorem pC_ (l:List Dg) (i j:Nat) (y:Dg) (hi:i<l.length):digA (l.set i y) j=if i=j then y else digA l j:=by
 unfold digA
 simp only[List.getD_eq_getElem?_getD,List.getElem?_set]
 by_cases e:i=j
 ·subst e;simp[hi]
 ·simp[e]
theorem vu_ (l:List Dg) (j:Nat) (h:j<l.length):digA l.reverse j=digA l (l.length-1-j):=by
 rw[digA,digA,List.getD_eq_getElem?_getD,List.getD_eq_getElem?_getD,List.getElem?_reverse h]
theorem g9_ {a b:List Dg} (h:a.length=b.length) (hg:∀ j,j<a.length→digA a j=digA b j):a=b:=by
 refine List.ext_getElem h fun i h1 h2=>?_
 have:=hg i h1
 unfold digA at this
 simpa [List.getD_eq_getElem?_getD,h1,h2] using this
abbrev rvS (m:List Dg) (i:Nat) (j:Int):St:=mkS 28 [(0,.row 1000),(2,.d (.v (.int .i64 i))),(3,.d (.v (.int .i64 j)))] [(1000,.row 87 32 m.length ((dgL m).map .d))]
theorem ql_ (l:List Dg) (h32:aY_ l) (hn:l.length≤65536):Fun Tryz.prog 206 [.row 1000] [(1000,.row 87 32 l.length ((dgL l).map .d))] (.d .any) [(1000,.row 87 32 l.length ((dgL l.reverse).map .d))] fun _=>False:=by
 have e0:IntKind.i64.wrap ((l.length:Int)-1)=(l.length:Int)-1:=IntWalk.i64_in _ (by omega)
 refine ad_ (pn:=ap_) aa_ Tryz.func206 rfl fun β0=>?_
 simp only[Tryz.f206]
 repeat(first|apply wG|(apply wR;simp -dsimp[e0])|refine aI ?_)
 refine ai_ (fun q S=>∃ (i:Nat) (m:List Dg),q=l.length-i∧i≤l.length∧m.length=l.length∧aY_ m∧(∀ p,p<l.length→digA m p=if p<i∨l.length-i≤p then digA l (l.length-1-p) else digA l p)∧S=rvS m i ((l.length:Int)-1-i)) l.length (S0:=rvS l 0 ((l.length:Int)-1-(0:Nat))) (ae_ [] (by simp) (by simp)) ⟨0,l,rfl,by omega,rfl,h32,fun p hp=>by rw[if_neg (by omega)],rfl⟩ ?_
 rintro _ _ ⟨i,m,rfl,hi,hml,hm32,hm,rfl⟩
 simp -dsimp
 repeat(first|apply wG|(apply wR;simp -dsimp)|refine aI ?_)
 by_cases hij:(i:Int)<(l.length:Int)-1-i
 ·obtain⟨j,hj⟩:∃ j:Nat,(l.length:Int)-1-i=j:=⟨l.length-1-i,by omega⟩
  rw[hj] at hij
  have hi1:i<m.length:=by omega
  have hj1:j<m.length:=by omega
  have e1:IntKind.i64.wrap ((i:Int)+1)=((i+1:Nat):Int):=by rw[IntWalk.i64_in _ (by omega)];omega
  have e2:IntKind.i64.wrap ((j:Int)-1)=(l.length:Int)-1-((i+1:Nat):Int):=by rw[IntWalk.i64_in _ (by omega)];omega
  have gi:=te_ i hm32 hi1
  have gj:=te_ j hm32 hj1
  have hl:=bq_ hm32
  have yi:=cl_ hm32 i hi1
  have yj:=cl_ hm32 j hj1
  have p1:=td_ i (digA m j) hm32 yj hi1
  have hm1:=lY_ hm32 i (digA m j) yj
  have lm1:(m.set i (digA m j)).length=m.length:=List.length_set
  have p2:=td_ j (digA m i) hm1 yi (by omega)
  have hl1:=bq_ hm1
  have hnew:∀ p,p<l.length→digA ((m.set i (digA m j)).set j (digA m i)) p=if p<i+1∨l.length-(i+1)≤p then digA l (l.length-1-p) else digA l p:=fun p hp=>by
   rw[pC_ _ _ _ _ (by omega),pC_ _ _ _ _ hi1]
   have mi:=hm i (by omega)
   have mj:=hm j (by omega)
   have mp:=hm p hp
   rw[if_neg (by omega)] at mi mj
   by_cases c1:j=p
   ·subst c1
    rw[if_pos rfl,if_pos (by omega),mi]
    congr 1
    omega
   ·rw[if_neg c1]
    by_cases c2:i=p
    ·subst c2
     rw[if_pos rfl,if_pos (by omega),mj]
     congr 1
     omega
    ·rw[if_neg c2,mp]
     by_cases c3:p<i∨l.length-i≤p
     ·rw[if_pos c3,if_pos (by omega)]
     ·rw[if_neg c3,if_neg (by omega)]
  have hm2:=lY_ hm1 j (digA m i) yi
  have lm2:((m.set i (digA m j)).set j (digA m i)).length=l.length:=by rw[List.length_set,List.length_set,hml]
  generalize hM2:(m.set i (digA m j)).set j (digA m i)=m2 at *
  generalize m.set i (digA m j)=m1 at *
  generalize digA m i=x at *
  generalize digA m j=y at *
  refine cT (by simp[hj];omega) ?_
  refine WP.skip ?_
  simp -dsimp[hj]
  repeat(first|apply wG|(apply wR;simp -dsimp[gi,gj,hl,hl1,lm1,bys_len,yi,yj,p1,p2,hi1,hj1])|refine aI ?_)
  refine And.intro ⟨by omega,fun a h=>ao_ h⟩ ?_
  repeat refine aI ?_
  refine And.intro ⟨by omega,fun a h=>ao_ h⟩ ?_
  repeat(first|apply wG|(apply wR;simp -dsimp)|refine aI ?_)
  refine loopW.next (rvS m2 (i+1) ((l.length:Int)-1-((i+1:Nat):Int))) (ae_ [] (by simp[e1,e2]) (by simp[lm2,hml])) (l.length-(i+1)) (by omega) ⟨i+1,m2,rfl,by omega,lm2,hm2,hnew,rfl⟩
 ·refine cF (by simp;omega) ?_
  refine WP.exit ?_
  have e:m=l.reverse:=g9_ (by simp[hml]) fun p hp=>by
   rw[vu_ l p (by omega),hm p (by omega)]
   by_cases c:p<i∨l.length-i≤p
   ·rw[if_pos c]
   ·rw[if_neg c];congr 1;omega
  subst e
  simp -dsimp
  repeat(first|apply wG|(apply wR;simp -dsimp)|refine aI ?_)
  refine be_ ?_
  simp -dsimp
abbrev Crw:=Dg×Int
def crX (c:Crw):List D:=bys c.1++[.v (.int .i64 c.2)]
def crC:List Crw→List D
 | []=>[]
 | c::l=>crX c++crC l
def crwD (l:List Crw):D:=.sl 33 (crC l) l.length false
def pD_ (c:Crw):Prop:=c.1.length=32∧isI c.2
theorem fK_ {c:Crw} (h:pD_ c):(crX c).length=33:=by rw[crX,List.length_append,bys_len,h.1];rfl
theorem kG_:∀ {l:List Crw},(∀ c∈l,pD_ c)→(crC l).length=l.length*33
 | [],_=>rfl
 | c::l,h=>by
  rw[crC,List.length_append,fK_ (h c (by simp)),kG_ fun x hx=>h x (by simp[hx]),List.length_cons]
  omega
theorem jx_:∀ (a b:List Crw),crC (a++b)=crC a++crC b
 | [],_=>rfl
 | d::a,b=>by rw[List.cons_append,crC,crC,jx_ a b,List.append_assoc]
theorem wo_ {l1:List Crw} {c:Crw} {l2:List Crw} (h:∀ x∈l1++c::l2,pD_ x):List.take 33 ((crC (l1++c::l2)).drop (l1.length*33))=crX c:=by
 rw[jx_,crC,List.drop_left' (kG_ fun x hx=>h x (by simp[hx])),List.take_left' (fK_ (h c (by simp)))]
theorem nO_ {c:Crw} {d:D} (h:d∈crX c):oneD d=true:=by
 rcases List.mem_append.1 h with h|h
 ·exact ao_ h
 ·rw[List.mem_singleton] at h;subst h;rfl
theorem Dz_ {c:Crw} (h:pD_ c):(crX c)[32]? = some (.v (.int .i64 c.2)):=by
 rw[crX,List.getElem?_append_right (by rw[bys_len,h.1];exact Nat.le_refl _),bys_len,h.1];rfl
def tA_ (c:Crw):Bool:=decide (c.2<1)||decide (4096<c.2)
def idxC:List Crw→Int→Int
 | [],_=>-1
 | c::l,i=>if tA_ c=true then i else idxC l (i+1)
theorem pn_:∀ (l:List Crw) (i:Int),0≤i→(0≤idxC l i↔l.any tA_=true)
 | [],i,h=>by simp[idxC]
 | c::l,i,h=>by
  rw[idxC,List.any_cons]
  by_cases hb:tA_ c=true
  ·simp[hb,h]
  ·rw[if_neg hb,pn_ l (i+1) (by omega)]
   simp[hb]
theorem tn_ {c:Crw} (h:pD_ c):atL ((crX c).map .d) 32=.d (.v (.int .i64 c.2)):=by
 rw[← cM_,List.getElem?_map,Dz_ h];rfl
theorem tk_ (c:Crw) (h:pD_ c):Fn0 Tryz.prog 127 [.agg (crX c)] (.v (.bool (tA_ c))):=by
 have hl:=fK_ h
 have hm:=tn_ h
 refine ad_ (pn:=ap_) aa_ Tryz.func127 rfl fun β0=>?_
 simp only[Tryz.f127]
 repeat(first|apply wG|(apply wR;simp -dsimp[hl])|refine aI ?_)
 refine And.intro (fun a h=>nO_ h) ?_
 repeat(first|apply wG|(apply wR;simp -dsimp[hl,hm])|refine aI ?_)
 refine WP.ret (ac_ ?_)
 simp -dsimp[tA_]
abbrev DF_:D:=.v (.func (.func 127) #[] #[])
abbrev crwS (l:List Crw) (i:Nat):St:=mkS 19 [(0,.d (crwD l)),(1,.d DF_),(7,.d (.v (.int .i64 l.length))),(8,.d (.v (.int .i64 i)))] []
theorem ti_ (l:List Crw) (hl:∀ c∈l,pD_ c) (hn:l.length≤1000000000000):Fn0 Tryz.prog 190 [crwD l,DF_] (.v (.int .i64 (idxC l 0))):=by
 refine ad_ (pn:=ap_) aa_ Tryz.func190 rfl fun β0=>?_
 simp only[Tryz.f190]
 repeat(first|apply wG|(apply wR;simp -dsimp[crwD])|refine aI ?_)
 refine ai_ (fun q S=>∃ l1 l2,l=l1++l2∧q=l2.length∧idxC l 0=idxC l2 l1.length∧S=crwS l l1.length) l.length (S0:=crwS l 0) (ae_ [] (by simp[crwD]) (by simp)) ⟨[],l,rfl,rfl,rfl,rfl⟩ ?_
 rintro _ _ ⟨l1,l2,hl12,rfl,hix,rfl⟩
 rw[hix]
 simp -dsimp[crwD]
 repeat(first|apply wG|(apply wR;simp -dsimp)|refine aI ?_)
 cases l2 with
 | nil =>
  simp only[List.append_nil] at hl12
  subst hl12
  refine cF (by simp) ?_
  refine WP.exit ?_
  simp -dsimp
  repeat(first|apply wG|(apply wR;simp -dsimp)|refine aI ?_)
  refine WP.ret (ac_ ?_)
  simp -dsimp[idxC]
 | cons c l2 =>
  have hll:l.length=l1.length+(l2.length+1):=by rw[hl12];simp
  have hc:=hl c (by rw[hl12];simp)
  have hat:=wo_ (l1:=l1) (c:=c) (l2:=l2) (by rw[← hl12];exact hl)
  rw[← hl12] at hat
  have e1:IntKind.i64.wrap ((l1.length:Int)+1)=(l1.length:Int)+1:=IntWalk.i64_in _ (by omega)
  have hcl:=fK_ hc
  have ht33:List.take 33 (crX c)=crX c:=List.take_of_length_le (by omega)
  have hcc:=kG_ hl
  have hlt:l1.length<l.length:=by omega
  refine cT (by simp;omega) ?_
  refine WP.skip ?_
  simp -dsimp
  repeat(first|apply wG|(apply wR;simp -dsimp[hat,hcl,hlt,ht33])|refine aI ?_)
  refine ab_ mC_ (tk_ c hc) rfl rfl (by simp[hat,ht33]) ?_
  simp -dsimp
  repeat(first|apply wG|(apply wR;simp -dsimp)|refine aI ?_)
  rw[idxC]
  by_cases hb:tA_ c=true
  ·rw[if_pos hb]
   refine cT (by simp[hb]) ?_
   repeat(first|apply wG|(apply wR;simp -dsimp)|refine aI ?_)
   refine WP.ret (ac_ ?_)
   simp -dsimp
  ·rw[if_neg hb]
   refine cF (by simp[hb]) ?_
   refine WP.skip ?_
   simp -dsimp
   repeat(first|apply wG|(apply wR;simp -dsimp)|refine aI ?_)
   refine loopW.next (crwS l (l1++[c]).length) (ae_ [] (by simp[crwD,e1]) (by simp)) l2.length (by simp) ⟨l1++[c],l2,by simp[hl12],rfl,by first|(simp;done)|(rw[hix];simp[idxC,hb]),rfl⟩
theorem tj_ (l:List Crw) (hl:∀ c∈l,pD_ c) (hn:l.length≤1000000000000):Fn0 Tryz.prog 126 [crwD l,DF_] (.v (.bool (l.any tA_))):=by
 have h55:=ti_ l hl hn
 have hi:=pn_ l 0 (Int.le_refl _)
 have e:decide (0≤idxC l 0)=l.any tA_:=by rw[Bool.eq_iff_iff,decide_eq_true_iff];exact hi
 refine ad_ (pn:=ap_) aa_ Tryz.func126 rfl fun β0=>?_
 simp only[Tryz.f126]
 repeat(first|apply wG|(apply wR;simp -dsimp[crwD])|refine aI ?_)
 refine ab_ mi_ h55 rfl rfl (by simp[crwD]) ?_
 simp -dsimp
 repeat(first|apply wG|(apply wR;simp -dsimp)|refine aI ?_)
 refine WP.ret (ac_ ?_)
 simp -dsimp
 rw[e]
 exact .refl _
def crB (l:List Crw):Bool:=decide (l.length≤32) && !(l.any tA_)
theorem kF_ (l:List Crw) (hl:∀ c∈l,pD_ c) (hn:l.length≤1000000000000):Fn0 Tryz.prog 73 [crwD l] (.v (.int .i64 (if crB l=true then 0 else 130))):=by
 have h28:=tj_ l hl hn
 refine ad_ (pn:=ap_) aa_ Tryz.func73 rfl fun β0=>?_
 simp only[Tryz.f73]
 repeat(first|apply wG|(apply wR;simp -dsimp[crwD])|refine aI ?_)
 refine aj_ mD_ (fun _=>h28) rfl (fun _=>rfl) (fun hg=>by simp[hg,crwD]) ?_
 simp -dsimp
 repeat(first|apply wG|(apply wR;simp -dsimp)|refine aI ?_)
 by_cases hb:crB l=true
 ·rw[if_pos hb]
  simp only[crB,Bool.and_eq_true,decide_eq_true_eq,Bool.not_eq_true'] at hb
  refine cF (by simp[hb.2];omega) ?_
  refine WP.skip ?_
  simp -dsimp
  repeat(first|apply wG|(apply wR;simp -dsimp)|refine aI ?_)
  refine WP.ret (ac_ ?_)
  simp -dsimp
 ·rw[if_neg hb]
  refine cT ?_ ?_
  ·simp only[crB,Bool.and_eq_true,decide_eq_true_eq,Bool.not_eq_true'] at hb
   cases ha:l.any tA_
   ·have:¬ l.length≤32:=fun h=>hb ⟨h,ha⟩
    simp;omega
   ·simp
  ·repeat(first|apply wG|(apply wR;simp -dsimp)|refine aI ?_)
   refine WP.ret (ac_ ?_)
   simp -dsimp
end Go.Proofs.YtfgcgagcpnbgmaaGreatDoor
