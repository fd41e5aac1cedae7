/-
  Joined texts.
-/
import Derived.Test.YtfgcgagcpnbgmaaGreatDoorGLb
import Derived.Test.YtfgcgagcpnbgmaaGreatDoorGG
import Derived.Test.YtfgcgagcpnbgmaaGreatDoorGEngCr
set_option linter.all false
set_option maxRecDepth 10000
namespace Go.Proofs.YtfgcgagcpnbgmaaGreatDoor
open Go.Xe Go.RowKit
def frS (a c n:By) (k l:UInt8) (bd t:By):By:=a++(c++(n++(k::l::(bd++t))))
section
variable {a c n bd t:By} {k l:UInt8} (ha:a.length=4) (hc:c.length=4) (hn:n.length=2) (hbd:bd.length=112) (ht:t.length=4)
include ha hc hn hbd ht
theorem gy_:(frS a c n k l bd t).length=128:=by simp[frS,ha,hc,hn,hbd,ht]
theorem Fa_ (x:By):(frS a c n k l bd t).take 0++(x++(frS a c n k l bd t).drop (0+4))=frS x c n k l bd t:=by
 rw[List.take_zero,List.nil_append,frS,List.drop_left' ha,frS]
theorem E9_ (x:By):(frS a c n k l bd t).take 4++(x++(frS a c n k l bd t).drop (4+4))=frS a x n k l bd t:=by
 have h:frS a c n k l bd t=(a++c)++(n++(k::l::(bd++t))):=by simp[frS]
 rw[h,List.drop_left' (by simp[ha,hc]),List.append_assoc,List.take_left' ha,frS]
theorem E8_ (x:By):(frS a c n k l bd t).take 8++(x++(frS a c n k l bd t).drop (8+2))=frS a c x k l bd t:=by
 have h1:frS a c n k l bd t=(a++c++n)++(k::l::(bd++t)):=by simp[frS]
 have h2:frS a c n k l bd t=(a++c)++(n++(k::l::(bd++t))):=by simp[frS]
 have e1:(frS a c n k l bd t).take 8=a++c:=by rw[h2,List.take_left' (by simp[ha,hc])]
 have e2:(frS a c n k l bd t).drop (8+2)=k::l::(bd++t):=by rw[h1,List.drop_left' (by simp[ha,hc,hn])]
 rw[e1,e2];simp[frS]
theorem BL_ (x y:UInt8):((frS a c n k l bd t).set 10 x).set 11 y=frS a c n x y bd t:=by
 have h1:frS a c n k l bd t=(a++c++n)++(k::l::(bd++t)):=by simp[frS]
 have l1:(a++c++n).length=10:=by simp[ha,hc,hn]
 rw[h1,List.set_append_right _ _ (by omega),List.set_append_right _ _ (by omega),l1]
 simp[frS]
theorem BM_ (x:By) (hx:x.length≤112):(frS a c n k l bd t).take 12++x++(frS a c n k l bd t).drop (12+x.length)=frS a c n k l (x++bd.drop x.length) t:=by
 have h1:frS a c n k l bd t=(a++c++n++[k,l])++(bd++t):=by simp[frS]
 have l1:(a++c++n++[k,l]).length=12:=by simp[ha,hc,hn]
 have e1:(frS a c n k l bd t).take 12=a++c++n++[k,l]:=by rw[h1,List.take_left' l1]
 have e2:(frS a c n k l bd t).drop (12+x.length)=bd.drop x.length++t:=by
  rw[h1,← List.drop_drop,List.drop_left' l1,List.drop_append_of_le_length (by omega)]
 rw[e1,e2];simp[frS]
theorem E7_ (x:By):(frS a c n k l bd t).take 124++(x++(frS a c n k l bd t).drop (124+4))=frS a c n k l bd x:=by
 have h1:frS a c n k l bd t=(a++c++n++[k,l]++bd)++t:=by simp[frS]
 have l1:(a++c++n++[k,l]++bd).length=124:=by simp[ha,hc,hn,hbd]
 have e1:(frS a c n k l bd t).take 124=a++c++n++[k,l]++bd:=by rw[h1,List.take_left' l1]
 have e2:(frS a c n k l bd t).drop (124+4)=[]:=List.drop_of_length_le (by rw[gy_ ha hc hn hbd ht];exact Nat.le_refl _)
 rw[e1,e2];simp[frS]
theorem zq_:((frS a c n k l bd t).drop 8).take 116=n++(k::l::bd):=by
 have h1:frS a c n k l bd t=(a++c)++((n++(k::l::bd))++t):=by simp[frS]
 rw[h1,List.drop_left' (by simp[ha,hc]),List.take_left' (by simp[hn,hbd])]
end
theorem BN_:List.replicate 128 0=frS (List.replicate 4 0) (List.replicate 4 0) (List.replicate 2 0) 0 0 (List.replicate 112 0) (List.replicate 4 0):=by decide
abbrev AL_ (s:By):Box:=.cells 247 ((bys s).map .d)
abbrev spO (s:By) (off m c i:Nat):St:=mkS 28 [(3,.d (.v (.int .u32 (wI (sy_ 4294967295#32 (((s.drop off).take m).take i)))))),(6,.psl 1000 off m c),(7,.d (.v (.int .i64 m))),(8,.d (.v (.int .i64 i)))] [(1000,AL_ s)]
abbrev spI (s:By) (off m c i:Nat) (x:W) (j:Nat):St:=mkS 28 [(3,.d (.v (.int .u32 (wI (sx_ x j))))),(6,.psl 1000 off m c),(7,.d (.v (.int .i64 m))),(8,.d (.v (.int .i64 i))),(16,.d (.v (.int .i64 j)))] [(1000,AL_ s)]
theorem w2_ {b:By} {i:Nat} (h:i<b.length):atL ((bys b).map AV.d) i=.d (.v (.int .u8 (b[i].toNat:Int))):=by
 rw[← df_,List.getElem?_map,qD_ h];rfl
set_option maxHeartbeats 1000000 in
theorem zL_ (s:By) (off m c:Nat) (h:off+m≤s.length) (hm:m≤1000000):Fun Tryz.prog 170 [.psl 1000 off m c] [(1000,AL_ s)] (.d (.v (.int .u32 (wI (crcB ((s.drop off).take m)))))) [(1000,AL_ s)] fun _=>False:=by
 have lb:((s.drop off).take m).length=m:=by rw[List.length_take,List.length_drop];omega
 refine ad_ (pn:=an_) ac_ Tryz.func170 rfl fun β0=>?_
 simp only[Tryz.f170]
 refine sG ?_
 refine ai_ (fun q S=>∃ i:Nat,q=m-i∧i≤m∧S=spO s off m c i) m (S0:=spO s off m c 0) (af_ [] (by simp;exact .refl _) (by simp)) ⟨0,rfl,by omega,rfl⟩ ?_
 rintro _ _ ⟨i,rfl,hi,rfl⟩
 simp -dsimp
 refine sG ?_
 by_cases hin:i<m
 ·have hin':i<((s.drop off).take m).length:=by omega
  have hsn:=m9_ 4294967295#32 (((s.drop off).take m).take i) ((s.drop off).take m)[i]
  rw[← dT_ _ hin'] at hsn
  have hat:=w2_ (b:=s) (i:=off+i) (by omega)
  have hge:((s.drop off).take m)[i]=s[off+i]'(by omega):=by rw[List.getElem_take,List.getElem_drop]
  rw[hge] at hsn
  have e1:IntKind.i64.wrap ((i:Int)+1)=((i+1:Nat):Int):=by rw[IntWalk.i64_in _ (by omega)];omega
  have ec:=hN_ (s[off+i]'(by omega))
  have ls:=ah_ s
  have hlt:off+i<s.length:=by omega
  generalize hx:sy_ 4294967295#32 (((s.drop off).take m).take i)=x at *
  generalize s[off+i]'(by omega)=ch at *
  refine cT (by simp;omega) ?_
  refine WP.skip ?_
  simp -dsimp
  repeat(first|apply wG|(apply wR;simp -dsimp[hat,ls,hlt,ec,b0_])|refine aI ?_)
  refine ai_ (fun q S=>∃ j:Nat,q=8-j∧j≤8∧S=spI s off m c i (x^^^BitVec.ofNat 32 ch.toNat) j) 8 (S0:=spI s off m c i (x^^^BitVec.ofNat 32 ch.toNat) 0) (af_ [] (by simp[sx_]) (by simp)) ⟨0,rfl,by omega,rfl⟩ ?_
  rintro _ _ ⟨j,rfl,hj,rfl⟩
  simp -dsimp
  refine sG ?_
  by_cases hj8:j<8
  ·have e2:IntKind.i64.wrap ((j:Int)+1)=((j+1:Nat):Int):=by rw[IntWalk.i64_in _ (by omega)];omega
   refine cT (by simp;omega) ?_
   refine WP.skip ?_
   simp -dsimp
   repeat(first|apply wG|(apply wR;simp -dsimp[zK_,zJ_,pi_,b0_])|refine aI ?_)
   refine loopW.next (spI s off m c i (x^^^BitVec.ofNat 32 ch.toNat) (j+1)) (af_ [] (by simp[e2,crcK_succ,crcT]) (by simp)) (8-(j+1)) (by omega) ⟨j+1,rfl,by omega,rfl⟩
  ·obtain rfl:j=8:=by omega
   refine cF (by simp) ?_
   refine WP.exit ?_
   simp -dsimp
   refine sG ?_
   refine loopW.next (spO s off m c (i+1)) (af_ [] (by simp[e1,hsn]) (by simp)) (m-(i+1)) (by omega) ⟨i+1,rfl,by omega,rfl⟩
 ·obtain rfl:i=m:=by omega
  have hall:((s.drop off).take i).take i=(s.drop off).take i:=List.take_of_length_le (by omega)
  refine cF (by simp) ?_
  refine WP.exit ?_
  simp -dsimp
  repeat(first|apply wG|(apply wR;simp -dsimp[sF_,uK_,hall])|refine aI ?_)
  refine WP.ret (ab_ ?_)
  simp -dsimp[sF_,uK_,crcB,hall]
theorem w1_ (s x:By) (off:Nat):((bys s).map AV.d).take off++((bys x).take (x.length*1)).map .d++((bys s).map AV.d).drop (off+x.length*1)=(bys (s.take off++x++s.drop (off+x.length))).map .d:=by
 have h:bys (s.take off++x++s.drop (off+x.length))=(bys s).take off++bys x++(bys s).drop (off+x.length):=by rw[bys,List.map_append,List.map_append,List.map_take,List.map_drop];rfl
 rw[Nat.mul_one,List.take_of_length_le (l:=bys x) (by rw[ah_];exact Nat.le_refl _),h,List.map_append,List.map_append,List.map_take,List.map_drop]
theorem wZ_ (n:Nat):IntKind.u8.wrap (n:Int)=((UInt8.ofNat n).toNat:Int):=by rw[IntKind.wrap_u8,UInt8.toNat_ofNat'];omega
abbrev enS (g num:Nat) (kc:UInt8) (b s:By):St:=mkS 35 [(0,.d (.v (.int .u64 g))),(1,.d (.v (.int .i64 num))),(2,.d (.v (.int .u8 (kc.toNat:Int)))),(3,.d (slB b)),(9,.ptr 9 0)] [(9,AL_ s)]
set_option maxHeartbeats 2000000 in
theorem kk_ (g num:Nat) (hg:g<18446744073709551616) (hnum:num<1000000) (kc:UInt8) (b:By) (hb:b.length≤112) :
  Fn0 Tryz.prog 102 [.v (.int .u64 g),.v (.int .i64 num),.v (.int .u8 (kc.toNat:Int)),slB b] (slB (secE g num kc.toNat b)):=by
 have en:IntKind.u64.wrap (num:Int)=(num:Int):=by rw[IntKind.wrap_u64];omega
 have el:=wZ_ b.length
 have z4:(List.replicate 4 (0:UInt8)).length=4:=rfl
 have z2:(List.replicate 2 (0:UInt8)).length=2:=rfl
 have z112:(List.replicate 112 (0:UInt8)).length=112:=by simp
 have b4:=bB_ g 4
 have n2:=bB_ num 2
 obtain⟨lc,hlc⟩:∃ lc,UInt8.ofNat b.length=lc:=⟨_,rfl⟩
 rw[hlc] at el
 -- the states of the array
 have p0:=lj_ (List.replicate 128 0) 0 4 128 g (by decide) (by decide) (by decide) hg
 rw[BN_,Fa_ z4 z4 z2 z112 z4,← BN_] at p0
 have l1:=gy_ b4 z4 z2 (k:=0) (l:=0) z112 z4
 have p1:=lj_ (frS (beB g 4) (List.replicate 4 0) (List.replicate 2 0) 0 0 (List.replicate 112 0) (List.replicate 4 0)) 8 2 120 num (by omega) (by decide) (by decide) (by omega)
 rw[E8_ b4 z4 z2 z112 z4] at p1
 have k1:=BL_ b4 z4 n2 (k:=0) (l:=0) z112 z4 kc lc
 have l2:=gy_ b4 z4 n2 (k:=0) (l:=0) z112 z4
 have l3:=gy_ b4 z4 n2 (k:=kc) (l:=lc) z112 z4
 have c1:=BM_ b4 z4 n2 (k:=kc) (l:=lc) z112 z4 b hb
 have d1:(List.replicate 112 (0:UInt8)).drop b.length=List.replicate (112-b.length) 0:=List.drop_replicate
 rw[d1] at c1
 have lbd:(b++List.replicate (112-b.length) (0:UInt8)).length=112:=by simp;omega
 have l4:=gy_ b4 z4 n2 (k:=kc) (l:=lc) lbd z4
 have p2:=lj_ (frS (beB g 4) (List.replicate 4 0) (beB num 2) kc lc (b++List.replicate (112-b.length) 0) (List.replicate 4 0)) 124 4 4 g (by omega) (by decide) (by decide) hg
 rw[E7_ b4 z4 n2 lbd z4] at p2
 have l5:=gy_ b4 z4 n2 (k:=kc) (l:=lc) lbd b4
 have q1:=zL_ (frS (beB g 4) (List.replicate 4 0) (beB num 2) kc lc (b++List.replicate (112-b.length) 0) (beB g 4)) 8 116 120 (by omega) (by decide)
 rw[zq_ b4 z4 n2 lbd b4] at q1
 have hbody:beB num 2++(kc::lc::(b++List.replicate (112-b.length) 0))=bodS num kc.toNat b:=by rw[bodS,UInt8.ofNat_toNat,hlc]
 rw[hbody] at q1
 have hlt32:=(crcB (bodS num kc.toNat b)).isLt
 have p3:=lj_ (frS (beB g 4) (List.replicate 4 0) (beB num 2) kc lc (b++List.replicate (112-b.length) 0) (beB g 4)) 4 4 124 (crcB (bodS num kc.toNat b)).toNat (by omega) (by decide) (by decide) (by omega)
 rw[E9_ b4 z4 n2 lbd b4] at p3
 have hend:frS (beB g 4) (beB (crcB (bodS num kc.toNat b)).toNat 4) (beB num 2) kc lc (b++List.replicate (112-b.length) 0) (beB g 4)=secE g num kc.toNat b:=by
  rw[frS,secE,← hbody];simp
 rw[hend] at p3
 have ls:=hO_ (g:=g) (num:=num) (kind:=kc.toNat) hb
 have ew:IntKind.u64.wrap (wI (crcB (bodS num kc.toNat b)))=(((crcB (bodS num kc.toNat b)).toNat:Nat):Int):=by
  rw[wI,IntKind.wrap_u64];omega
 generalize secE g num kc.toNat b=S6 at *
 generalize crcB (bodS num kc.toNat b)=cr at *
 generalize frS (beB g 4) (List.replicate 4 0) (beB num 2) kc lc (b++List.replicate (112-b.length) 0) (beB g 4)=S5 at *
 generalize frS (beB g 4) (List.replicate 4 0) (beB num 2) kc lc (b++List.replicate (112-b.length) 0) (List.replicate 4 0)=S4 at *
 generalize frS (beB g 4) (List.replicate 4 0) (beB num 2) kc lc (List.replicate 112 0) (List.replicate 4 0)=S3 at *
 generalize frS (beB g 4) (List.replicate 4 0) (beB num 2) 0 0 (List.replicate 112 0) (List.replicate 4 0)=S2 at *
 generalize frS (beB g 4) (List.replicate 4 0) (List.replicate 2 0) 0 0 (List.replicate 112 0) (List.replicate 4 0)=S1 at *
 refine ad_ (pn:=an_) ac_ Tryz.func102 rfl fun β0=>?_
 simp only[Tryz.f102]
 refine WP.seq ?_
 refine WP.region ac_ ?_
 simp -dsimp[slB]
 repeat refine aI ?_
 refine WP.seq ?_
 refine WP.region ac_ ?_
 simp -dsimp[slB]
 repeat refine aI ?_
 refine ar_ (S':=enS g num kc b (List.replicate 128 0)) (af_ [] (by simp[slB]) (by simp[a8_])) ?_
 simp -dsimp
 refine sG ?_
 refine vcStop.call bT_ (p0) (rl [(1000,9)]) rfl rfl (by simp[BoxLeq]) aGq (fun _ h=>h.elim) (fun ⟨_,h⟩=>h.elim) (fun ⟨_,h⟩=>h.elim) (by simp[BoxLeq]) ?_
 simp -dsimp
 repeat(first|apply wG|(apply wR;simp -dsimp[en])|refine aI ?_)
 refine vcStop.call bT_ (p1) (rl [(1000,9)]) rfl rfl (by simp[en,BoxLeq]) (ag_ (by simp[en,BoxLeq]) rfl (by first|rfl|(simp[en,BoxLeq];done)) (by simp[en,BoxLeq]) (by simp[en,BoxLeq])) (fun _ h=>h.elim) (fun ⟨_,h⟩=>h.elim) (fun ⟨_,h⟩=>h.elim) (by simp[en,BoxLeq]) ?_
 simp -dsimp
 have ls2:=ah_ S2
 have ls3:=ah_ S3
 have t6:List.take 128 (bys S6)=bys S6:=List.take_of_length_le (by rw[ah_,ls];exact Nat.le_refl _)
 repeat(first|apply wG|(apply wR;simp -dsimp[el,bysA_set,k1,l2,ls2])|refine aI ?_)
 by_cases h0:b.length=0
 ·obtain rfl:b=[]:=List.length_eq_zero_iff.1 h0
  have e34:S3=S4:=by simpa using c1
  rw[e34] at *
  refine ib_ ac_ rfl rfl rfl rfl rfl ?_
  simp -dsimp
  refine sG ?_
  refine vcStop.call bT_ (p2) (rl [(1000,9)]) rfl rfl (by simp[BoxLeq]) aGq (fun _ h=>h.elim) (fun ⟨_,h⟩=>h.elim) (fun ⟨_,h⟩=>h.elim) (by simp[BoxLeq]) ?_
  simp -dsimp
  refine sG ?_
  refine vcStop.call ho_ (q1) (rl [(1000,9)]) rfl rfl (by simp[BoxLeq]) aGq (fun _ h=>h.elim) (fun ⟨_,h⟩=>h.elim) (fun ⟨_,h⟩=>h.elim) (by simp[BoxLeq]) ?_
  simp -dsimp
  repeat(first|apply wG|(apply wR;simp -dsimp[ew])|refine aI ?_)
  refine vcStop.call bT_ (p3) (rl [(1000,9)]) rfl rfl (by simp[ew,BoxLeq]) (ag_ (by simp[ew,BoxLeq]) rfl (by first|rfl|(simp[ew,BoxLeq];done)) (by simp[ew,BoxLeq]) (by simp[ew,BoxLeq])) (fun _ h=>h.elim) (fun ⟨_,h⟩=>h.elim) (fun ⟨_,h⟩=>h.elim) (by simp[ew,BoxLeq]) ?_
  simp -dsimp
  repeat refine aI ?_
  refine sG ?_
  refine WP.ret (aj_ (aR_ (k:=9) (T:=247) (ds:=bys S6) rfl) ?_)
  simp -dsimp[slB,ls,fS_,fzc,ah_,t6]
  rw[if_pos (by decide)];exact .refl _
 ·refine c1_ ac_ rfl rfl rfl rfl rfl (CpSrc.data rfl (by omega)) b.length (Nat.min_eq_left (by omega)) (by rw[ah_];simp) (by simp[ls3,l3];omega) (cs':=(bys S4).map .d) (by rw[← c1];exact w1_ S3 b 12) ?_
  simp -dsimp
  refine sG ?_
  refine vcStop.call bT_ (p2) (rl [(1000,9)]) rfl rfl (by simp[BoxLeq]) aGq (fun _ h=>h.elim) (fun ⟨_,h⟩=>h.elim) (fun ⟨_,h⟩=>h.elim) (by simp[BoxLeq]) ?_
  simp -dsimp
  refine sG ?_
  refine vcStop.call ho_ (q1) (rl [(1000,9)]) rfl rfl (by simp[BoxLeq]) aGq (fun _ h=>h.elim) (fun ⟨_,h⟩=>h.elim) (fun ⟨_,h⟩=>h.elim) (by simp[BoxLeq]) ?_
  simp -dsimp
  repeat(first|apply wG|(apply wR;simp -dsimp[ew])|refine aI ?_)
  refine vcStop.call bT_ (p3) (rl [(1000,9)]) rfl rfl (by simp[ew,BoxLeq]) (ag_ (by simp[ew,BoxLeq]) rfl (by first|rfl|(simp[ew,BoxLeq];done)) (by simp[ew,BoxLeq]) (by simp[ew,BoxLeq])) (fun _ h=>h.elim) (fun ⟨_,h⟩=>h.elim) (fun ⟨_,h⟩=>h.elim) (by simp[ew,BoxLeq]) ?_
  simp -dsimp
  repeat refine aI ?_
  refine sG ?_
  refine WP.ret (aj_ (aR_ (k:=9) (T:=247) (ds:=bys S6) rfl) ?_)
  simp -dsimp[slB,ls,fS_,fzc,ah_,t6]
  rw[if_pos (by decide)];exact .refl _
theorem q7_:∀ k:Nat,k<256→bits .and .u8 (k:Int) 2=((k/2%2*2:Nat):Int):=by decide +kernel
theorem q8_:∀ k:Nat,k<256→bits .and .u8 (k:Int) 1=((k%2:Nat):Int):=by decide +kernel
theorem cp_ (b:By) (n:Nat) (h:n≤b.length):slB (b.take n)=.sl 1 ((bys b).take n) n false:=by
 rw[slB,List.length_take,Nat.min_eq_left h,bys,List.map_take];rfl
theorem gc_ (b:By) (o n:Nat) (h:o+n≤b.length):slB ((b.drop o).take n)=.sl 1 (((bys b).drop o).take n) n false:=by
 rw[slB,List.length_take,List.length_drop,Nat.min_eq_left (by omega),bys,List.map_take,List.map_drop];rfl
set_option maxHeartbeats 2000000 in
theorem zo_ (s:By) (hs:s.length=128) (num:Nat) (hnum:num<1000000):Fn0 Tryz.prog 147 [slB s,.v (.int .i64 num)] (.v (.bool (gdB s num))):=by
 have ls:=ah_ s
 have h10:s[10]'(by omega)=byA s 10:=by simp[byA,hs]
 have h11:s[11]'(by omega)=byA s 11:=by simp[byA,hs]
 have k10:=(byA s 10).toNat_lt
 have k11:=(byA s 11).toNat_lt
 have a2:=q7_ (byA s 10).toNat k10
 have a1:=q8_ (byA s 10).toNat k10
 have hg:=iP_ (s.take 4) (by rw[List.length_take];omega)
 rw[cp_ s 4 (by omega)] at hg
 have e11:IntKind.i64.wrap ((byA s 11).toNat:Int)=(byA s 11).toNat:=IntWalk.i64_in _ (by omega)
 refine ad_ (pn:=an_) ac_ Tryz.func147 rfl fun β0=>?_
 simp only[Tryz.f147]
 repeat(first|apply wG|(apply wR;simp -dsimp[slB,hs,av_,ls,h10,h11,e11,a1,a2])|refine aI ?_)
 have hkd:knd s=(byA s 10).toNat:=rfl
 have hpl:pcL s=(byA s 11).toNat:=rfl
 have hgd:gdB s num=(decide (pcL s≤112∧knd s≤3∧(knd s/2%2=1∨pcL s=112)∧(knd s%2=1∨pcL s≠0))&&(decide (0<genS s)&&decide (s=secE (genS s) num (knd s) (pcS s)))):=by
  rw[Bool.eq_iff_iff]
  simp only[gdB,or_,begS,Bool.and_eq_true,Bool.or_eq_true,decide_eq_true_eq,and_assoc]
 rw[hgd]
 by_cases hf:pcL s≤112∧knd s≤3∧(knd s/2%2=1∨pcL s=112)∧(knd s%2=1∨pcL s≠0)
 ·rw[decide_eq_true hf,Bool.true_and]
  have hp12:pcL s≤112:=hf.1
  have lpc:(pcS s).length=pcL s:=by rw[pcS,List.length_take,List.length_drop,hs];omega
  have hmid:=gc_ s 12 (pcL s) (by omega)
  have henc:=kk_ (genS s) num (by have:=gu_ s;omega) hnum (byA s 10) (pcS s) (by omega)
  rw[pcS,hmid,← pcS,← hkd] at henc
  have lse:=hO_ (g:=genS s) (num:=num) (kind:=knd s) (b:=pcS s) (by omega)
  have heq:=dy_ s (secE (genS s) num (knd s) (pcS s))
  rw[← genS] at hg
  rw[hkd,hpl] at hf
  rw[hpl] at henc hp12
  have e12:IntKind.i64.wrap (12+((byA s 11).toNat:Int))=12+((byA s 11).toNat:Int):=IntWalk.i64_in _ (by omega)
  have e13:(12+((byA s 11).toNat:Int)-12).toNat=(byA s 11).toNat:=by omega
  refine cF (by simp;omega) ?_
  refine WP.skip ?_
  simp -dsimp
  repeat(first|apply wG|(apply wR;simp -dsimp[slB,hs])|refine aI ?_)
  refine aa_ aM_ hg rfl rfl (by simp) ?_
  simp -dsimp
  generalize secE (genS s) num (knd s) (pcS s)=E at *
  refine ar_ (S':=mkS 60 [(0,.d (slB s)),(1,.d (.v (.int .i64 num))),(5,.d (.v (.int .i64 ((byA s 11).toNat:Int)))),(6,.d (.v (.int .u64 (genS s))))] []) (af_ [] (by simp[slB,hs]) (by simp)) ?_
  by_cases h0:0<genS s
  ·have hd:decide (0<genS s)=true:=decide_eq_true h0
   rw[hd,Bool.true_and]
   simp -dsimp[slB,hs]
   repeat(first|apply wG|(apply wR;simp -dsimp[av_,ls,hs,h10,h11,e12,e13,hd])|refine aI ?_)
   refine ae_ hx_ (fun _=>henc) rfl (fun _=>rfl) (fun _=>by simp[hkd]) ?_
   simp -dsimp[slB,lse]
   repeat refine aI ?_
   refine ae_ fa_ (fun _=>heq) rfl (fun _=>rfl) (fun _=>by simp[slB,hs,lse]) ?_
   simp -dsimp
   repeat refine aI ?_
   refine sG ?_
   refine WP.ret (ab_ ?_)
   simp -dsimp
  ·have hd:decide (0<genS s)=false:=decide_eq_false h0
   rw[hd,Bool.false_and]
   simp -dsimp[slB,hs]
   repeat(first|apply wG|(apply wR;simp -dsimp[av_,ls,hs,h10,h11,e12,e13,hd])|refine aI ?_)
   refine vcStopG.skip (.d (.v (.bool false))) ?_
   simp -dsimp
   repeat refine aI ?_
   refine vcStopG.skip (.d (.v (.bool false))) ?_
   simp -dsimp
   repeat refine aI ?_
   refine sG ?_
   refine WP.ret (ab_ ?_)
   simp -dsimp
 ·rw[decide_eq_false hf,Bool.false_and]
  rw[hkd,hpl] at hf
  refine cT (by simp;omega) ?_
  refine sG ?_
  refine WP.ret (ab_ ?_)
  simp -dsimp
end Go.Proofs.YtfgcgagcpnbgmaaGreatDoor
namespace Go.Proofs.YtfgcgagcpnbgmaaGreatDoor
open Go.Xe Go.RowKit
abbrev rgS (s:By) (i:Nat):St:=mkS 84 [(0,.d (slB s)),(6,.d (.v (.int .i64 i)))] []
set_option maxRecDepth 10000 in
set_option maxHeartbeats 4000000 in
theorem rM_ (s:By) (hs:s.length=128) (num:Nat) (hnum:num<65536):Fn0 Tryz.prog 204 [slB s,.v (.int .i64 num)] (.v (.bool (gdB s num))):=by
 have ls:=ah_ s
 have h10:s[10]'(by omega)=byA s 10:=by simp[byA,hs]
 have h11:s[11]'(by omega)=byA s 11:=by simp[byA,hs]
 have k10:=(byA s 10).toNat_lt
 have k11:=(byA s 11).toNat_lt
 have hkd:knd s=(byA s 10).toNat:=rfl
 have hpl:pcL s=(byA s 11).toNat:=rfl
 have e11:IntKind.i64.wrap ((byA s 11).toNat:Int)=(byA s 11).toNat:=IntWalk.i64_in _ (by omega)
 have g1:=cz_ (s.take 4) (by rw[List.length_take];omega)
 rw[cp_ s 4 (by omega),← genS] at g1
 have g2:=cz_ ((s.drop 124).take 4) (by rw[List.length_take];omega)
 rw[gc_ s 124 4 (by omega),show (s.drop 124).take 4=s.drop 124 from List.take_of_length_le (by rw[List.length_drop];omega),← tailS] at g2
 have g3:=cz_ ((s.drop 4).take 4) (by rw[List.length_take];omega)
 rw[gc_ s 4 4 (by omega)] at g3
 have g4:=tn_ ((s.drop 8).take 116) (by rw[List.length_take];omega)
 rw[gc_ s 8 116 (by omega)] at g4
 have g5:=cz_ ((s.drop 8).take 2) (by rw[List.length_take];omega)
 rw[gc_ s 8 2 (by omega)] at g5
 have hiff:=zp_ hs hnum
 have et:((byA s 10).toNat:Int).tmod 2=(((byA s 10).toNat%2:Nat):Int):=by rw[Int.tmod_eq_emod_of_nonneg (by omega)];omega
 have b3:beN ((s.drop 4).take 4)<4294967296:=by
  have h:=i3_ ((s.drop 4).take 4)
  rw[List.length_take,List.length_drop,hs,show min 4 (128-4)=4 from rfl] at h;omega
 have w3:IntKind.u32.wrap (beN ((s.drop 4).take 4):Int)=(beN ((s.drop 4).take 4):Int):=by rw[IntKind.wrap_u32];omega
 have w5:IntKind.u64.wrap (num:Int)=(num:Int):=by rw[IntKind.wrap_u64];omega
 have hcr:wI (crcB ((s.drop 8).take 116))=((crcB ((s.drop 8).take 116)).toNat:Int):=rfl
 unfold gdR at hiff
 generalize genS s=G at *
 generalize tailS s=T at *
 generalize beN ((s.drop 4).take 4)=C at *
 generalize wI (crcB ((s.drop 8).take 116))=K at *
 generalize (crcB ((s.drop 8).take 116)).toNat=K' at *
 generalize beN ((s.drop 8).take 2)=M at *
 subst hcr
 rw[hkd,hpl] at hiff
 have hno:¬ (G≠0∧G=T∧C=K'∧M=num)→gdB s num=false:=fun h=>by
  rw[Bool.eq_false_iff]
  intro h2
  have:=hiff.2 h2
  exact h ⟨this.1,this.2.1,this.2.2.1,this.2.2.2.1⟩
 refine ad_ (pn:=an_) ac_ Tryz.func204 rfl fun β0=>?_
 simp only[Tryz.f204]
 repeat(first|apply wG|(apply wR;simp -dsimp[slB,hs,av_,ls,h10,h11,e11])|refine aI ?_)
 refine aa_ bb_ g1 rfl rfl (by simp) ?_
 simp -dsimp[av_,ls,hs,h10,h11,w3,w5]
 repeat refine aI ?_
 refine ae_ bb_ (fun _=>g1) rfl (fun _=>rfl) (fun _=>by simp) ?_
 simp -dsimp[av_,ls,hs,h10,h11,w3,w5]
 repeat refine aI ?_
 refine ae_ bb_ (fun _=>g2) rfl (fun _=>rfl) (fun _=>by simp[hs]) ?_
 simp -dsimp[av_,ls,hs,h10,h11,w3,w5]
 repeat refine aI ?_
 refine ae_ bb_ (fun _=>g3) rfl (fun _=>rfl) (fun _=>by simp) ?_
 simp -dsimp[av_,ls,hs,h10,h11,w3,w5]
 repeat refine aI ?_
 refine ae_ nI_ (fun _=>g4) rfl (fun _=>rfl) (fun _=>by simp) ?_
 simp -dsimp[av_,ls,hs,h10,h11,w3,w5]
 repeat refine aI ?_
 refine ae_ bb_ (fun _=>g5) rfl (fun _=>rfl) (fun _=>by simp) ?_
 simp -dsimp[av_,ls,hs,h10,h11,w3,w5]
 repeat refine aI ?_
 by_cases hf:(G≠0∧G=T∧C=K'∧M=num)∧(byA s 10).toNat≤3∧(byA s 11).toNat≤112∧((byA s 10).toNat<2→(byA s 11).toNat=112)∧((byA s 10).toNat%2=0→(byA s 11).toNat≠0)
 ·refine cF (by simp[et];omega) ?_
  refine WP.skip ?_
  obtain⟨n,hn⟩:∃ n,(byA s 11).toNat=n:=⟨_,rfl⟩
  rw[hn] at hf hiff
  have e12:IntKind.i64.wrap (12+(n:Int))=((12+n:Nat):Int):=by rw[IntWalk.i64_in _ (by omega)];omega
  have hz:=vp_ (s:=s) (o:=12+n) (n:=112-n) (by omega)
  simp -dsimp[hn]
  repeat(first|apply wG|(apply wR;simp -dsimp[hn,e12])|refine aI ?_)
  refine ai_ (fun q S=>∃ i:Nat,q=124-i∧12+n≤i∧i≤124∧(∀ x,12+n≤x→x<i→byA s x=0)∧S=rgS s i) (124-(12+n)) (S0:=rgS s (12+n)) (af_ [] (by simp[slB,hs,e12]) (by simp)) ⟨12+n,rfl,by omega,by omega,fun x h1 h2=>by omega,rfl⟩ ?_
  rintro _ _ ⟨i,rfl,hi1,hi2,hall,rfl⟩
  simp -dsimp[slB,hs]
  refine sG ?_
  by_cases hin:i<124
  ·have e1:IntKind.i64.wrap ((i:Int)+1)=((i+1:Nat):Int):=by rw[IntWalk.i64_in _ (by omega)];omega
   have hgi:s[i]'(by omega)=byA s i:=(pn_ (by omega)).symm
   have hi128:i<128:=by omega
   refine cT (by simp;omega) ?_
   refine WP.skip ?_
   simp -dsimp
   repeat(first|apply wG|(apply wR;simp -dsimp[av_,ls,hs,hi128,hgi])|refine aI ?_)
   by_cases h0:byA s i=0
   ·refine cF (by simp[h0]) ?_
    refine WP.skip ?_
    simp -dsimp
    refine sG ?_
    refine loopW.next (rgS s (i+1)) (af_ [] (by simp[slB,hs,e1]) (by simp)) (124-(i+1)) (by omega) ⟨i+1,rfl,by omega,by omega,fun x h1 h2=>?_,rfl⟩
    rcases Nat.lt_or_eq_of_le (show x≤i by omega) with h|h
    ·exact hall x h1 h
    ·rw[h];exact h0
   ·have hB:gdB s num=false:=by
     rw[Bool.eq_false_iff]
     intro h2
     have:=(hiff.2 h2).2.2.2.2.2.2.2.2
     exact h0 (hz.1 this i hi1 (by omega))
    have h0':(byA s i).toNat≠0:=fun h=>h0 (UInt8.toNat_inj.1 (by rw[h];rfl))
    refine cT (by simp[h0']) ?_
    refine sG ?_
    refine WP.ret (ab_ ?_)
    simp -dsimp[hB]
  ·obtain rfl:i=124:=by omega
   have hB:gdB s num=true:=hiff.1 ⟨hf.1.1,hf.1.2.1,hf.1.2.2.1,hf.1.2.2.2,hf.2.1,hf.2.2.1,hf.2.2.2.1,hf.2.2.2.2,hz.2 fun x h1 h2=>hall x h1 (by omega)⟩
   refine cF (by simp) ?_
   refine WP.exit ?_
   simp -dsimp
   refine sG ?_
   refine WP.ret (ab_ ?_)
   simp -dsimp[hB]
 ·have hB:gdB s num=false:=by
   rw[Bool.eq_false_iff]
   intro h2
   have:=hiff.2 h2
   exact hf ⟨⟨this.1,this.2.1,this.2.2.1,this.2.2.2.1⟩,this.2.2.2.2.1,this.2.2.2.2.2.1,this.2.2.2.2.2.2.1,this.2.2.2.2.2.2.2.1⟩
  refine cT (by simp[et];omega) ?_
  refine sG ?_
  refine WP.ret (ab_ ?_)
  simp -dsimp[hB]
end Go.Proofs.YtfgcgagcpnbgmaaGreatDoor
