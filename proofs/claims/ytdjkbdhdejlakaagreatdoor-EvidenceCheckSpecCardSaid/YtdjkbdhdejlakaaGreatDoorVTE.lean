/-
  Joined texts.
-/
import Derived.Test.YtdjkbdhdejlakaaGreatDoorVTA
import Derived.Test.YtdjkbdhdejlakaaGreatDoorVA
import Derived.Test.YtdjkbdhdejlakaaGreatDoorVG
import Derived.Test.YtdjkbdhdejlakaaGreatDoorV0
set_option maxRecDepth 10000
set_option linter.unusedVariables false
set_option linter.unusedSimpArgs false
set_option linter.unusedSectionVars false
namespace Go.Proofs.YtdjkbdhdejlakaaGreatDoor
open Go.Xe Go.RowKit
theorem c1_ (hsum:∀ b:List UInt8,b.length≤100000→Fn0 Tryz.prog 182 [slB b] (dD (hL_ b))) (s:ByteArray) (hs:s.size≤1000) (b:List UInt8) (hb:b.length≤90000):Fn0 Tryz.prog 130 [.v (.string s),slB b] (dD (tagB s.data.toList b)):=by
 have hsl:s.size=s.data.toList.length:=rfl
 obtain⟨t,ht⟩:∃ t,s.data.toList=t:=⟨_,rfl⟩
 rw[ht] at hsl
 obtain⟨T,hT⟩:∃ T,hL_ t=T:=⟨_,rfl⟩
 have lT:T.length=32:=by rw[← hT,sumB_len]
 have h1:=hsum t (by omega)
 have h2:=hsum (T++b) (by simp;omega)
 have h2r:Fun Tryz.prog 182 [.row 1000] [(1000,.row 5 1 (T++b).length ((bys (T++b)).map .d))] (.d (dD (hL_ (T++b)))) [] fun _=>False:=aW_ 1000 (T:=5) (cs:=bys (T++b)) (args':=[.row 1000]) (bi':=[(1000,.row 5 1 (T++b).length ((bys (T++b)).map .d))]) h2 rfl rfl trivial
 have eT:tagB t b=hL_ (T++b):=by rw[tagB,hT]
 have eb:bys (T++b)=bys T++bys b:=by rw[bys,bys,bys,List.map_append]
 rw[hT] at h1
 rw[ht,eT]
 refine ac_ (pn:=ao_) aa_ Tryz.func130 rfl fun β0=>?_
 simp only[Tryz.f130]
 repeat(first|apply wG|(apply wR;simp -dsimp[ht])|refine aI ?_)
 refine ad_ gR_ h1 rfl rfl (by first|(simp[slB,hsl];done)|(simp[slB,bys,hsl];done)) ?_
 simp -dsimp[dD]
 refine And.intro ⟨lT,fun a h=>an_ h⟩ ?_
 refine aw_ (aF_ (k:=5) (T:=74) (ds:=bys T) (by simp[setL_whole,lT,bys_len])) ?_
 simp -dsimp[ff_,fzc,cw_,kY_]
 repeat(first|apply wG|(apply wR;simp -dsimp)|refine aI ?_)
 refine as_ aa_ rfl rfl rfl rfl (by simp[bys_len,lT]) (by decide) rfl ?_
 simp -dsimp[bys_t32,lT,slB]
 repeat(first|apply wG|(apply wR;simp -dsimp[slB,bys_len,lT])|refine aI ?_)
 refine vcStop.call gR_ (h2r) (rl [(1000,13)]) rfl rfl (by simp[eb,lT,BoxLeq]) (ai_ (by simp[eb,lT,BoxLeq]) rfl (by first|rfl|(simp[eb,lT,BoxLeq];done)) (by simp[eb,lT,BoxLeq]) (by simp[eb,lT,BoxLeq])) (fun _ h=>h.elim) (fun ⟨_,h⟩=>h.elim) (fun ⟨_,h⟩=>h.elim) (by simp[eb,lT,BoxLeq]) ?_
 simp -dsimp[dD]
 refine And.intro ⟨sumB_len _,fun a h=>an_ h⟩ ?_
 repeat(first|apply wG|(apply wR;simp -dsimp[bys_len,sumB_len])|refine aI ?_)
 refine WP.ret (ab_ ?_)
 simp -dsimp[setL_whole,bys_len,sumB_len,bysA_take]
 exact ag_ _
theorem sG_ (hsum:∀ b:List UInt8,b.length≤100000→Fn0 Tryz.prog 182 [slB b] (dD (hL_ b))) (f:Nat→Int) (hf:fOk f):Fn0 Tryz.prog 90 [fD f] (slB (msgB f)):=by
 have h41:=dU_ f hf
 rw[← oi_ hf] at h41
 have hle:=qu_ hf
 have hm:=fC_ f
 have ht:=c1_ hsum ⟨#[102,97,99,116]⟩ (by decide) (encR f).1 (by omega)
 rw [show (⟨#[102, 97, 99, 116]⟩ : ByteArray).data.toList = tB "fact" by decide +kernel, show tagB (tB "fact") (encR f).1 = msgB f from rfl] at ht
 generalize msgB f=r at *
 generalize encR f=R at *
 obtain⟨l,e⟩:=R
 refine ac_ (pn:=ao_) aa_ Tryz.func90 rfl fun β0=>?_
 simp only[Tryz.f90]
 rw[fD]
 repeat(first|apply wG|(apply wR;simp -dsimp)|refine aI ?_)
 refine ad_ eY_ h41 rfl rfl (by simp[fD]) ?_
 simp -dsimp
 repeat(first|apply wG|(apply wR;simp -dsimp)|refine aI ?_)
 refine ad_ bw_ ht rfl rfl (by simp[slB]) ?_
 simp -dsimp[dD]
 refine And.intro ⟨hm,fun a h=>an_ h⟩ ?_
 refine aw_ (aF_ (k:=5) (T:=74) (ds:=bys r) (by simp[setL_whole,bys_len,hm])) ?_
 simp -dsimp[ff_,fzc,cw_,kY_]
 repeat(first|apply wG|(apply wR;simp -dsimp)|refine aI ?_)
 refine as_ aa_ rfl rfl rfl rfl (by simp[bys_len,hm]) (by decide) rfl ?_
 simp -dsimp[bys_t32,hm]
 repeat(first|apply wG|(apply wR;simp -dsimp)|refine aI ?_)
 refine WP.ret (ab_ ?_)
 simp -dsimp[slB,hm]
theorem rc_ (hsum:∀ b:List UInt8,b.length≤100000→Fn0 Tryz.prog 182 [slB b] (dD (hL_ b))) (d:Dg) (hd:d.length=32):Fn0 Tryz.prog 127 [dD d] (dD (openB d)):=by
 have ht:=c1_ hsum ⟨#[111,112,101,110]⟩ (by decide) d (by omega)
 rw [show (⟨#[111, 112, 101, 110]⟩ : ByteArray).data.toList = tB "open" by decide +kernel, show tagB (tB "open") d = openB d from rfl] at ht
 have ho:(openB d).length=32:=bh_ _ _
 generalize openB d=r at *
 refine ac_ (pn:=ao_) aa_ Tryz.func127 rfl fun β0=>?_
 simp only[Tryz.f127]
 refine WP.seq ?_
 refine WP.region aa_ ?_
 simp -dsimp[dD,bys_len,hd]
 refine And.intro (fun a h=>an_ h) ?_
 refine aw_ (aF_ (k:=1) (T:=74) (ds:=bys d) (by simp[setL_whole,bys_len,hd])) ?_
 simp -dsimp[ff_,fzc,cw_,kY_]
 repeat(first|apply wG|(apply wR;simp -dsimp)|refine aI ?_)
 refine as_ aa_ rfl rfl rfl rfl (by simp[bys_len,hd]) (by decide) rfl ?_
 simp -dsimp[bys_t32,hd]
 repeat(first|apply wG|(apply wR;simp -dsimp)|refine aI ?_)
 refine ad_ bw_ ht rfl rfl (by simp[slB,hd]) ?_
 simp -dsimp[dD]
 refine And.intro ⟨ho,fun a h=>an_ h⟩ ?_
 repeat(first|apply wG|(apply wR;simp -dsimp[bys_len,ho])|refine aI ?_)
 refine WP.ret (ab_ ?_)
 simp -dsimp[setL_whole,bys_len,ho,bysA_take]
 exact ag_ _
theorem sE_ (n:Nat) (hn:n<65536):Fn0 Tryz.prog 179 [.v (.int .i64 n)] (slB (r1_ n)):=by
 have e0:(n:Int).fdiv (2^8)=((n/256:Nat):Int):=by
  rw[show ((2:Int)^8)=256 by decide,Int.fdiv_eq_ediv_of_nonneg _ (by decide)]
  omega
 have e1:IntKind.u8.wrap ((n/256:Nat):Int)=((UInt8.ofNat (n/256)).toNat:Int):=by rw[IntKind.wrap_u8,UInt8.toNat_ofNat'];omega
 have e2:IntKind.u8.wrap (n:Int)=((UInt8.ofNat n).toNat:Int):=by rw[IntKind.wrap_u8,UInt8.toNat_ofNat'];omega
 have e3:shN .i64 8=8:=by decide
 have e4:IntKind.u8.wrap ((n:Int).fdiv 256)=(n:Int)/256%256:=by rw[IntKind.wrap_u8,Int.fdiv_eq_ediv_of_nonneg _ (by decide)]
 have e5:IntKind.u8.wrap (n:Int)=(n:Int)%256:=IntKind.wrap_u8 _
 have eb:bys (r1_ n)=[.v (.int .u8 ((UInt8.ofNat (n/256)).toNat:Int)),.v (.int .u8 ((UInt8.ofNat n).toNat:Int))]:=rfl
 rw[slB,eb]
 refine ac_ (pn:=ao_) aa_ Tryz.func179 rfl fun β0=>?_
 simp only[Tryz.f179]
 repeat(first|apply wG|(apply wR;simp -dsimp[e0,e1,e2,e3])|refine aI ?_)
 refine WP.ret (am_ (Wk.freeze (k:=8) (T:=5) (sz:=1) (n:=2) (ds:=[.v (.int .u8 ((UInt8.ofNat (n/256)).toNat:Int)),.v (.int .u8 ((UInt8.ofNat n).toNat:Int))]) (by simp[e4,e5])) ?_)
 simp -dsimp[r1_]
theorem qF_ (l:List Dg):bys l.flatten=dgL l:=by
 induction l with
 | nil=>rfl
 | cons d l ih=>rw[List.flatten_cons,dgL,← ih,bys,bys,bys,List.map_append]
theorem flat_len {l:List Dg} (h:bf_ l):l.flatten.length=l.length*32:=by rw[← bys_len,qF_,dt_ h]
abbrev onS (l l1:List Dg):St:=mkS 20 [(0,.d (slG l)),(2,.ptr 2 0),(3,.row 500),(4,.d (.v (.int .i64 l1.length)))] [(2,.cells 74 ((bys z32).map .d)),(500,.row 5 1 (l1.length*32) ((dgL l1).map .d))]
theorem sF_ (hsum : ∀ b : List UInt8, b.length ≤ 100000 → Fn0 Tryz.prog 182 [slB b] (dD (hL_ b))) (l : List Dg) (hl : bf_ l) (hn : l.length ≤ 1000) : Fn0 Tryz.prog 129 [slG l] (dD (tagB (tB "one") l.flatten)) := by
 have fl:=flat_len hl
 have ht:=c1_ hsum ⟨#[111,110,101]⟩ (by decide) l.flatten (by omega)
 rw [show (⟨#[111, 110, 101]⟩ : ByteArray).data.toList = tB "one" by decide +kernel] at ht
 have ho : (tagB (tB "one") l.flatten).length = 32 := bh_ _ _
 rw[slB,qF_,fl] at ht
 generalize tagB (tB "one") l.flatten = r at *
 have htr:Fun Tryz.prog 130 [.d (.v (.string ⟨#[111,110,101]⟩)),.row 1000] [(1000,.row 5 1 (l.length*32) ((dgL l).map .d))] (.d (dD r)) [] fun _=>False:=aW_ 1000 (T:=5) (cs:=dgL l) (args':=[.d (.v (.string ⟨#[111,110,101]⟩)),.row 1000]) (bi':=[(1000,.row 5 1 (l.length*32) ((dgL l).map .d))]) ht rfl rfl trivial
 have lz:z32.length=32:=rfl
 refine ac_ (pn:=ao_) aa_ Tryz.func129 rfl fun β0=>?_
 simp only[Tryz.f129]
 repeat(first|apply wG|(apply wR;simp -dsimp[slG])|refine aI ?_)
 refine ak_ (fun m S=>∃ l1 l2,l=l1++l2∧m=l2.length∧S=onS l l1) l.length (S0:=onS l []) (Wk.go [] 5 500 (by decide) (by simp[slG]) (by simp[slG]) (by simp[slG];try exact⟨rfl,rfl⟩)) ⟨[],l,rfl,rfl,rfl⟩ ?_
 rintro _ _ ⟨l1,l2,hl12,rfl,rfl⟩
 simp -dsimp[slG]
 repeat(first|apply wG|(apply wR;simp -dsimp)|refine aI ?_)
 cases l2 with
 | nil =>
  simp only[List.append_nil] at hl12
  subst hl12
  refine cF (by simp) ?_
  refine WP.exit ?_
  simp -dsimp
  repeat(first|apply wG|(apply wR;simp -dsimp)|refine aI ?_)
  refine vcStop.call bw_ (htr) (rl [(1000,500)]) rfl rfl (by simp[BoxLeq]) (ai_ (by simp[BoxLeq]) rfl (by first|rfl|(simp[BoxLeq];done)) (by simp[BoxLeq]) (by simp[BoxLeq])) (fun _ h=>h.elim) (fun ⟨_,h⟩=>h.elim) (fun ⟨_,h⟩=>h.elim) (by simp[BoxLeq]) ?_
  simp -dsimp[dD,bys_len,lz]
  refine And.intro ⟨ho,fun a h=>an_ h⟩ ?_
  repeat(first|apply wG|(apply wR;simp -dsimp[bys_len,ho,lz])|refine aI ?_)
  refine WP.ret (ab_ ?_)
  simp -dsimp[setL_whole,bys_len,ho,lz,bysA_take]
  exact ag_ _
 | cons d l2 =>
  have hll:l.length=l1.length+(l2.length+1):=by rw[hl12];simp
  have hlt:l1.length<l.length:=by omega
  have hat:=gB_ hl l1.length hlt
  have hd32:=ds_ hl l1.length hlt
  have hde:digA l l1.length=d:=by rw[digA,hl12];simp
  rw[hde] at hat hd32
  have lC:=dt_ hl
  have e1:IntKind.i64.wrap ((l1.length:Int)+1)=(l1.length:Int)+1:=IntWalk.i64_in _ (by omega)
  have tb:List.take 32 ((bys d).map AV.d)=(bys d).map .d:=List.take_of_length_le (by rw[List.length_map,bys_len];omega)
  have esn:dgL (l1++[d])=dgL l1++bys d:=v6_ l1 d
  refine cT (by simp;omega) ?_
  refine WP.skip ?_
  simp -dsimp
  repeat(first|apply wG|(apply wR;simp -dsimp[hat,lC])|refine aI ?_)
  refine as_ aa_ rfl rfl rfl rfl (by simp[hat,bys_len,hd32,lC];try omega) (by decide) rfl ?_
  simp -dsimp[hat,bys_len,hd32]
  repeat(first|apply wG|(apply wR;simp -dsimp[hat,bys_len,hd32])|refine aI ?_)
  refine loopW.next (onS l (l1++[d])) (Wk.go [] 17 500 (by decide) (by simp[slG,tb]) (by simp[e1,slG]) (by simp[esn,slG,tb];try omega)) l2.length (by simp) ⟨l1++[d],l2,by simp[hl12],rfl,rfl⟩
def iw_ (f:Nat→Bool) (i:Nat):List Bool:=(List.range i).map f
theorem rP_ (f:Nat→Bool) (i:Nat):iw_ f (i+1)=iw_ f i++[f i]:=by simp[iw_,List.range_succ]
theorem ud_ (f:Nat→Bool) (i:Nat):(iw_ f i).length=i:=by simp[iw_]
abbrev btS (g:List UInt8) (f:Nat→Bool) (i:Nat):St:=mkS 46 [(8,.ptr 8 0),(9,.row 500),(10,.d (.v (.int .i64 i)))] [(8,.cells 74 ((bys g).map .d)),(500,.row 4 1 i ((boD (iw_ f i)).map .d))]
set_option maxHeartbeats 4000000 in
theorem rg_ (hsum:∀ b:List UInt8,b.length≤100000→Fn0 Tryz.prog 182 [slB b] (dD (hL_ b))) (root:Dg) (hr:root.length=32) (index:Nat) (hi:index<4096) (msg:List UInt8) (hm:msg.length≤65536) :
  Fn0 Tryz.prog 126 [dD root,.v (.int .i64 index),slB msg] (.sl 1 (boD (sgnB root index msg)) 64 false):=by
 have h63:=sE_ index (by omega)
 have l2:(r1_ index).length=2:=rfl
 obtain⟨tw,htw⟩:∃ t,r1_ index=t:=⟨_,rfl⟩
 rw[htw] at h63 l2
 have ht:=c1_ hsum ⟨#[109,101,115,115,97,103,101]⟩ (by decide) (root++(tw++msg)) (by simp;omega)
 rw [show (⟨#[109, 101, 115, 115, 97, 103, 101]⟩ : ByteArray).data.toList = tB "message" by decide +kernel] at ht
 have hl : (tagB (tB "message") (root ++ (tw ++ msg))).length = 32 := bh_ _ _
 have hf : ∀ j, bitB root index msg j = (((byA (tagB (tB "message") (root ++ (tw ++ msg))) (j / 8)).toNat / 2 ^ (7 - j % 8)) % 2 == 1) := fun j => by rw [bitB, htw]
 have hs:iw_ (bitB root index msg) 64=sgnB root index msg:=rfl
 generalize tagB (tB "message") (root ++ (tw ++ msg)) = g at *
 have hlen:(root++(tw++msg)).length=34+msg.length:=by simp;omega
 rw[slB,hlen] at ht
 have htr:Fun Tryz.prog 130 [.d (.v (.string ⟨#[109,101,115,115,97,103,101]⟩)),.row 1000] [(1000,.row 5 1 (34+msg.length) ((bys (root++(tw++msg))).map .d))] (.d (dD g)) [] fun _=>False:=aW_ 1000 (T:=5) (cs:=bys (root++(tw++msg))) (args':=[.d (.v (.string ⟨#[109,101,115,115,97,103,101]⟩)),.row 1000]) (bi':=[(1000,.row 5 1 (34+msg.length) ((bys (root++(tw++msg))).map .d))]) ht rfl rfl trivial
 have eb:bys (root++(tw++msg))=bys root++(bys tw++bys msg):=by rw[bys,bys,bys,bys,List.map_append,List.map_append]
 generalize bitB root index msg=f at *
 rw[← hs]
 refine ac_ (pn:=ao_) aa_ Tryz.func126 rfl fun β0=>?_
 simp only[Tryz.f126]
 refine WP.seq ?_
 refine WP.region aa_ ?_
 simp -dsimp[dD,bys_len,hr]
 refine And.intro (fun a h=>an_ h) ?_
 refine aw_ (aF_ (k:=3) (T:=74) (ds:=bys root) (by simp[bys_len,hr])) ?_
 simp -dsimp[ff_,fzc,cw_,kY_]
 repeat(first|apply wG|(apply wR;simp -dsimp)|refine aI ?_)
 refine cF (by simp;omega) ?_
 refine WP.skip ?_
 simp -dsimp
 repeat(first|apply wG|(apply wR;simp -dsimp)|refine aI ?_)
 refine as_ aa_ rfl rfl rfl rfl (by simp[bys_len,hr]) (by decide) rfl ?_
 simp -dsimp[bys_t32,hr,slB]
 repeat(first|apply wG|(apply wR;simp -dsimp[slB,bys_len,hr])|refine aI ?_)
 refine ad_ mY_ h63 rfl rfl (by simp) ?_
 simp -dsimp[slB]
 repeat(first|apply wG|(apply wR;simp -dsimp[slB,bys_len,l2,hr])|refine aI ?_)
 refine vcStop.call bw_ (htr) (rl [(1000,25)]) rfl rfl (by simp[eb,hr,l2,BoxLeq]) (ai_ (by simp[eb,hr,l2,BoxLeq]) rfl (by first|rfl|(simp[eb,hr,l2,BoxLeq];done)) (by simp[eb,hr,l2,BoxLeq]) (by simp[eb,hr,l2,BoxLeq])) (fun _ h=>h.elim) (fun ⟨_,h⟩=>h.elim) (fun ⟨_,h⟩=>h.elim) (by simp[eb,hr,l2,BoxLeq]) ?_
 simp -dsimp[dD]
 refine And.intro ⟨hl,fun a h=>an_ h⟩ ?_
 repeat(first|apply wG|(apply wR;simp -dsimp)|refine aI ?_)
 refine ak_ (fun q S=>∃ i:Nat,q=64-i∧i≤64∧S=btS g f i) 64 (S0:=btS g f 0) (Wk.go [] 27 500 (by decide) (by simp[setL_whole,bys_len,hl]) (by simp[setL_whole,bys_len,hl]) (by simp[setL_whole,bys_len,hl,boD,iw_])) ⟨0,rfl,by omega,rfl⟩ ?_
 rintro _ _ ⟨i,rfl,hi6,rfl⟩
 simp -dsimp
 repeat(first|apply wG|(apply wR;simp -dsimp)|refine aI ?_)
 by_cases hi64:i<64
 ·refine cT (by simp;omega) ?_
  refine WP.skip ?_
  obtain⟨q,hq⟩:∃ q,i/8=q:=⟨_,rfl⟩
  obtain⟨m,hm8⟩:∃ m,i%8=m:=⟨_,rfl⟩
  have k0:(i:Int).tmod 8=(m:Int):=by rw[Int.tmod_eq_emod_of_nonneg (by omega)];omega
  have k1:IntKind.i64.wrap ((i:Int)/8)=(q:Int):=by rw[IntWalk.i64_in _ (by omega)];omega
  have k2:IntKind.i64.wrap (m:Int)=(m:Int):=by rw[IntWalk.i64_in _ (by omega)]
  have k3:IntKind.i64.wrap (7-(m:Int))=((7-m:Nat):Int):=by rw[IntWalk.i64_in _ (by omega)];omega
  have k5:IntKind.i64.wrap ((i:Int)+1)=((i+1:Nat):Int):=by rw[IntWalk.i64_in _ (by omega)];omega
  have h2:q<32:=by omega
  have hat:=on_ g q (by omega)
  have hfi:=hf i
  rw[hq,hm8] at hfi
  obtain⟨s,hs7⟩:∃ s,7-m=s:=⟨_,rfl⟩
  rw[hs7] at k3 hfi
  have k4:shN .u8 (s:Int)=s:=by simp[shN,IntKind.bits];omega
  have hx:=(byA g q).toNat_lt
  have k6:((byA g q).toNat:Int).fdiv (2^s)=(((byA g q).toNat/2^s:Nat):Int):=by
   rw[show ((2:Int)^s)=((2^s:Nat):Int) by simp,Int.fdiv_eq_ediv_of_nonneg _ (Int.natCast_nonneg _)];exact (Int.natCast_ediv _ _).symm
  have hy:(byA g q).toNat/2^s<256:=Nat.lt_of_le_of_lt (Nat.div_le_self _ _) hx
  obtain⟨y,hye⟩:∃ y,(byA g q).toNat/2^s=y:=⟨_,rfl⟩
  rw[hye] at k6 hy hfi
  have k7:=uh_ y hy
  obtain⟨z,hz⟩:∃ z,y%2=z:=⟨_,rfl⟩
  rw[hz] at k7 hfi
  have hbe:decide ((z:Int)=1)=f i:=by
   rw[hfi,Bool.eq_iff_iff];simp;omega
  have hn:boD (iw_ f (i+1))=boD (iw_ f i)++[.v (.bool (f i))]:=by rw[rP_];simp[boD]
  have hlo:=ud_ f i
  simp -dsimp
  repeat(first|apply wG|(apply wR;simp -dsimp[k0,k1,k2,k3,k4,k6,k7,hat,h2,hl,bys_len,hbe])|refine aI ?_)
  refine loopW.next (btS g f (i+1)) (Wk.go [] 44 500 (by decide) (by simp) (by simp[k5]) (by simp[hn])) (64-(i+1)) (by omega) ⟨i+1,rfl,by omega,rfl⟩
 ·refine cF (by simp;omega) ?_
  refine WP.exit ?_
  obtain rfl:i=64:=by omega
  simp -dsimp
  repeat(first|apply wG|(apply wR;simp -dsimp)|refine aI ?_)
  refine WP.ret (am_ (Wk.freeze (k:=500) (T:=4) (sz:=1) (n:=64) (ds:=boD (iw_ f 64)) (by simp)) ?_)
  simp -dsimp
end Go.Proofs.YtdjkbdhdejlakaaGreatDoor
