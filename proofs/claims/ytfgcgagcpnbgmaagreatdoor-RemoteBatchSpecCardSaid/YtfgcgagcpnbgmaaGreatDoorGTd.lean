/-
  Joined texts.
-/
import Derived.Test.YtfgcgagcpnbgmaaGreatDoorGT
import Derived.Test.YtfgcgagcpnbgmaaGreatDoorGEngCr
set_option linter.all false
set_option maxRecDepth 10000
set_option maxHeartbeats 4000000
namespace Go.Proofs.YtfgcgagcpnbgmaaGreatDoor
open Go.Xe Go.RowKit
theorem qb_ (x:W) (n:Nat) (h:n=16∨n=12∨n=8∨n=7):Fn0 Tryz.prog 269 [.v (.int .u32 (wI x)),.v (.int .i64 (-(n:Int)))] (.v (.int .u32 (wI (rr n x)))):=by
 have e1:bits .and .u64 (IntKind.u64.wrap (-(n:Int))) 31=((32-n:Nat):Int):=by rcases h with rfl|rfl|rfl|rfl<;>decide
 have e2:IntKind.u64.wrap (32-((32-n:Nat):Int))=(n:Int):=by rcases h with rfl|rfl|rfl|rfl<;>decide
 have e3:shN .u32 ((32-n:Nat):Int)=32-n:=by rcases h with rfl|rfl|rfl|rfl<;>decide
 have e4:shN .u32 (n:Int)=n:=by rcases h with rfl|rfl|rfl|rfl<;>decide
 have e5:=vD_ x (32-n)
 have e6:=sB_ x n
 have hn:n≤32:=by omega
 refine ad_ (pn:=an_) ac_ Tryz.func269 rfl fun β0=>?_
 simp only[Tryz.f269]
 repeat(first|apply wG|(apply wR;simp -dsimp[e1,e2,e3,e4,e5,e6,Dq_])|refine aI ?_)
 refine WP.ret (ab_ ?_)
 simp -dsimp[rr]
theorem gT_ (T:TypeId) (v:List W) (hv:v.length=16) (a b c d:Nat) (ha:a<16) (hb:b<16) (hc:c<16) (hd:d<16) (x y:W) :
  Fun Tryz.prog 260 [.ptr 1000 0,.d (.v (.int .i64 a)),.d (.v (.int .i64 b)),.d (.v (.int .i64 c)),.d (.v (.int .i64 d)),.d (.v (.int .u32 (wI x))),.d (.v (.int .u32 (wI y)))] [(1000,.cells T ((u32L v).map .d))] (.d .any)
   [(1000,.cells T ((u32L (vo_ v a b c d x y)).map .d))] fun _=>False:=by
 obtain⟨v1,k1⟩:∃ w,s1 v a b x=w:=⟨_,rfl⟩
 have l1:v1.length=16:=by rw[← k1,s4_,hv]
 obtain⟨v2,k2⟩:∃ w,s2 v1 d a 16=w:=⟨_,rfl⟩
 have l2:v2.length=16:=by rw[← k2,mi_,l1]
 obtain⟨v3,k3⟩:∃ w,s3 v2 c d=w:=⟨_,rfl⟩
 have l3:v3.length=16:=by rw[← k3,s3_,l2]
 obtain⟨v4,k4⟩:∃ w,s2 v3 b c 12=w:=⟨_,rfl⟩
 have l4:v4.length=16:=by rw[← k4,mi_,l3]
 obtain⟨v5,k5⟩:∃ w,s1 v4 a b y=w:=⟨_,rfl⟩
 have l5:v5.length=16:=by rw[← k5,s4_,l4]
 obtain⟨v6,k6⟩:∃ w,s2 v5 d a 8=w:=⟨_,rfl⟩
 have l6:v6.length=16:=by rw[← k6,mi_,l5]
 obtain⟨v7,k7⟩:∃ w,s3 v6 c d=w:=⟨_,rfl⟩
 have l7:v7.length=16:=by rw[← k7,s3_,l6]
 obtain⟨v8,k8⟩:∃ w,s2 v7 b c 7=w:=⟨_,rfl⟩
 have l8:v8.length=16:=by rw[← k8,mi_,l7]
 have e:vo_ v a b c d x y=v8:=by rw[vo_,k1,k2,k3,k4,k5,k6,k7,k8]
 rw[e]
 rw[s1] at k1
 rw[s2] at k2
 rw[s3] at k3
 rw[s2] at k4
 rw[s1] at k5
 rw[s2] at k6
 rw[s3] at k7
 rw[s2] at k8
 refine ad_ (pn:=an_) ac_ Tryz.func260 rfl fun β0=>?_
 simp only[Tryz.f260]
 repeat(first|apply wG|(apply wR;simp -dsimp[u32L_len,aA_,aV_,hv,ha,hb,hc,hd,f8_,b0_,l1,k1,l2,k2,l3,k3,l4,k4,l5,k5,l6,k6,l7,k7,l8,k8])|refine aI ?_)
 refine aa_ cS_ (qb_ (gW v1 d^^^gW v1 a) 16 (by omega)) rfl rfl (by simp) ?_
 simp -dsimp[u32L_len,aA_,aV_,hv,ha,hb,hc,hd,f8_,b0_,l1,k1,l2,k2,l3,k3,l4,k4,l5,k5,l6,k6,l7,k7,l8,k8]
 repeat(first|apply wG|(apply wR;simp -dsimp[u32L_len,aA_,aV_,hv,ha,hb,hc,hd,f8_,b0_,l1,k1,l2,k2,l3,k3,l4,k4,l5,k5,l6,k6,l7,k7,l8,k8])|refine aI ?_)
 refine aa_ cS_ (qb_ (gW v3 b^^^gW v3 c) 12 (by omega)) rfl rfl (by simp) ?_
 simp -dsimp[u32L_len,aA_,aV_,hv,ha,hb,hc,hd,f8_,b0_,l1,k1,l2,k2,l3,k3,l4,k4,l5,k5,l6,k6,l7,k7,l8,k8]
 repeat(first|apply wG|(apply wR;simp -dsimp[u32L_len,aA_,aV_,hv,ha,hb,hc,hd,f8_,b0_,l1,k1,l2,k2,l3,k3,l4,k4,l5,k5,l6,k6,l7,k7,l8,k8])|refine aI ?_)
 refine aa_ cS_ (qb_ (gW v5 d^^^gW v5 a) 8 (by omega)) rfl rfl (by simp) ?_
 simp -dsimp[u32L_len,aA_,aV_,hv,ha,hb,hc,hd,f8_,b0_,l1,k1,l2,k2,l3,k3,l4,k4,l5,k5,l6,k6,l7,k7,l8,k8]
 repeat(first|apply wG|(apply wR;simp -dsimp[u32L_len,aA_,aV_,hv,ha,hb,hc,hd,f8_,b0_,l1,k1,l2,k2,l3,k3,l4,k4,l5,k5,l6,k6,l7,k7,l8,k8])|refine aI ?_)
 refine aa_ cS_ (qb_ (gW v7 b^^^gW v7 c) 7 (by omega)) rfl rfl (by simp) ?_
 simp -dsimp[u32L_len,aA_,aV_,hv,ha,hb,hc,hd,f8_,b0_,l1,k1,l2,k2,l3,k3,l4,k4,l5,k5,l6,k6,l7,k7,l8,k8]
 repeat(first|apply wG|(apply wR;simp -dsimp[u32L_len,aA_,aV_,hv,ha,hb,hc,hd,f8_,b0_,l1,k1,l2,k2,l3,k3,l4,k4,l5,k5,l6,k6,l7,k7,l8,k8])|refine aI ?_)
 refine cO_ ?_
 simp -dsimp
theorem wrS (n:Int) (h1 : -1000000≤n) (h2:n≤1000000):IntKind.i64.wrap n=n:=IntWalk.i64_in _ (by omega)
def permD:List D:=permT.flatten.map fun (k:Nat)=>.v (.int .u8 (k:Int))
theorem sq_:(Glob.laid 12:Option (List D))=some permD:=rfl
def ptD (r:Nat):List D:=(List.range 16).map fun j=>.v (.int .u8 (ptA r j:Int))
theorem iu_:permD.length=160:=rfl
theorem v3_:∀ r,r<10→(permD.drop (r*16)).take 16=ptD r:=fun r hr=>by
 have h:r=0∨r=1∨r=2∨r=3∨r=4∨r=5∨r=6∨r=7∨r=8∨r=9:=by omega
 rcases h with rfl|rfl|rfl|rfl|rfl|rfl|rfl|rfl|rfl|rfl<;>rfl
theorem cA_ (r:Nat):(ptD r).length=16:=by simp[ptD]
theorem d1_ (r j:Nat) (h:j<16):atL ((ptD r).map .d) j=.d (.v (.int .u8 (ptA r j:Int))):=by
 rw[← df_,List.getElem?_map,ptD,List.getElem?_map,List.getElem?_range h];rfl
def z16:List W:=List.replicate 16 0
theorem nd_ (b:List UInt8) (i:Nat) (h:i<b.length):(bys b).drop i=a8_ (byA b i)::(bys b).drop (i+1):=by
 rw[List.drop_eq_getElem_cons (by simpa [bys] using h)]
 congr 1
 simp[bys,byA,List.getD_eq_getElem?_getD,h]
abbrev abB (h m v:List W):Bxs:=[(1000,.cells 307 ((u32L h).map .d)),(8,.cells 326 ((u32L m).map .d)),(9,.cells 326 ((u32L v).map .d))]
abbrev ab1 (h:List W) (b:List UInt8) (n:Nat) (last:Bool) (i:Nat):St :=
 mkS 149 [(0,.ptr 1000 0),(2,.d (.v (.int .u64 n))),(3,.d (.v (.bool last))),(8,.ptr 8 0),(9,.ptr 9 0),(18,.d (slB b)),(19,.d (.v (.int .i64 b.length))),(20,.d (.v (.int .i64 i)))] (abB h (bV_ b i) z16)
abbrev ab2 (h M H:List W) (r:Nat):St :=
 mkS 149 [(0,.ptr 1000 0),(8,.ptr 8 0),(9,.ptr 9 0),(12,.fn (.func 260) [.ptr 9 0] []),(65,.d (.agg permD)),(66,.d (.v (.int .i64 r)))] (abB h M (rndV M H r))
theorem yO_ {r:Nat} {a:D} (h:a∈ptD r):oneD a=true:=by
 obtain⟨j,_,rfl⟩:=List.mem_map.1 h
 rfl
abbrev ab3 (h M R:List W) (r i:Nat):St :=
 mkS 149 [(0,.ptr 1000 0),(8,.ptr 8 0),(9,.ptr 9 0),(12,.fn (.func 260) [.ptr 9 0] []),(14,.ptr 14 0),(65,.d (.agg permD)),(66,.d (.v (.int .i64 r))),(69,.d (.v (.int .i64 i)))] (abB h M (colV M r R i)++[(14,.cells 329 ((ptD r).map .d))])
abbrev ab4 (h M R:List W) (r i:Nat):St :=
 mkS 149 [(0,.ptr 1000 0),(8,.ptr 8 0),(9,.ptr 9 0),(12,.fn (.func 260) [.ptr 9 0] []),(14,.ptr 14 0),(65,.d (.agg permD)),(66,.d (.v (.int .i64 r))),(95,.d (.v (.int .i64 i)))] (abB h M (diaV M r R i)++[(14,.cells 329 ((ptD r).map .d))])
abbrev ab5 (h R:List W) (i:Nat):St:=mkS 149 [(0,.ptr 1000 0),(9,.ptr 9 0),(129,.d (.v (.int .i64 i)))] [(1000,.cells 307 ((u32L (endV h R i)).map .d)),(9,.cells 326 ((u32L R).map .d))]
theorem nj_ (h:List W) (hh:h.length=8) (b:List UInt8) (hb:b.length≤64) (n:Nat) (hn:n<18446744073709551616) (last:Bool) :
  Fun Tryz.prog 237 [.ptr 1000 0,.d (slB b),.d (.v (.int .u64 n)),.d (.v (.bool last))] [(1000,.cells 307 ((u32L h).map .d))] (.d .any)
   [(1000,.cells 307 ((u32L (wS_ h b n last)).map .d))] fun _=>False:=by
 refine ad_ (pn:=an_) ac_ Tryz.func237 rfl fun β0=>?_
 simp only[Tryz.f237]
 refine sG ?_
 refine ai_ (fun q S=>∃ i:Nat,q=b.length-i∧i≤b.length∧S=ab1 h b n last i) b.length (S0:=ab1 h b n last 0) (af_ [] (by simp) (by simp[u32L,wI,u32D,bV_,z16])) ⟨0,rfl,by omega,rfl⟩ ?_
 rintro _ _ ⟨i,rfl,hi,rfl⟩
 simp -dsimp
 refine sG ?_
 by_cases hib:i<b.length
 ·refine cT (by simp;omega) ?_
  refine WP.skip ?_
  obtain⟨q,hq⟩:∃ q,i/4=q:=⟨_,rfl⟩
  obtain⟨m,hm⟩:∃ m,i%4=m:=⟨_,rfl⟩
  have e0:(i:Int).tmod 4=(m:Int):=by rw[Int.tmod_eq_emod_of_nonneg (by omega)];omega
  have e1:IntKind.i64.wrap ((i:Int)/4)=(q:Int):=by rw[IntWalk.i64_in _ (by omega)];omega
  have e2:IntKind.i64.wrap (m:Int)=(m:Int):=by rw[IntWalk.i64_in _ (by omega)]
  have e3:IntKind.i64.wrap (8*(m:Int))=8*(m:Int):=by rw[IntWalk.i64_in _ (by omega)]
  have e4:shN .u32 (8*(m:Int))=8*m:=by simp[shN,IntKind.bits];omega
  have e5:IntKind.i64.wrap ((i:Int)+1)=((i+1:Nat):Int):=by rw[IntWalk.i64_in _ (by omega)];omega
  have h1:=nd_ b i hib
  have hw:=dR_ b i
  have h2:q<16:=by omega
  obtain⟨x,hx⟩:∃ x,BitVec.ofNat 32 (byA b i).toNat=x:=⟨_,rfl⟩
  have e6:IntKind.u32.wrap ((byA b i).toNat:Int)=wI x:=by rw[hN_,hx]
  have e7:bV_ b (i+1)=(bV_ b i).set q (gW (bV_ b i) q|||x<<<(8*m)):=by rw[bV_,hq,hm,hx]
  generalize byA b i=c at *
  have e8:=vD_ x (8*m)
  generalize x<<<(8*m)=y at *
  simp -dsimp
  repeat(first|apply wG|(apply wR;simp -dsimp[h1,a8_,e0,e1,e2,e3,e4,e6,e8,hw,h2,u32L_len,aA_,aV_,Dq_])|refine aI ?_)
  refine loopW.next (ab1 h b n last (i+1)) (af_ [] (by simp[e5]) (by simp[e7])) (b.length-(i+1)) (by omega) ⟨i+1,rfl,by omega,rfl⟩
 ·refine cF (by simp;omega) ?_
  refine WP.exit ?_
  obtain rfl:i=b.length:=by omega
  have hM:=dR_ b b.length
  obtain⟨M,hMe⟩:∃ M,bV_ b b.length=M:=⟨_,rfl⟩
  obtain⟨H,hHe⟩:∃ H,Am_ h n last=H:=⟨_,rfl⟩
  rw[wS_,hMe,hHe]
  rw[hMe] at hM
  simp -dsimp[hMe]
  refine sG ?_
  refine c1_ ac_ rfl rfl rfl rfl rfl (CpSrc.psl rfl rfl) 8 rfl (by simp[u32L_len,hh]) (by simp[u32L_len,z16]) (cs':=(u32L (h++List.replicate 8 0)).map .d) (by simp[u32L,z16,hh,List.take_of_length_le]) ?_
  simp -dsimp
  refine sG ?_
  refine aw_ ac_ rfl rfl rfl rfl (by simp) (by decide) rfl ?_
  simp -dsimp
  refine sG ?_
  refine c1_ ac_ rfl rfl rfl rfl rfl (CpSrc.data rfl (by decide)) 8 rfl (by simp) (by simp[u32L_len,hh]) (cs':=(u32L (h++iniV)).map .d) (by simp[u32L,hh,iniV,u32D,wI,List.take_of_length_le]) ?_
  obtain⟨V0,hV0⟩:∃ V,h++iniV=V:=⟨_,rfl⟩
  have l0:V0.length=16:=by rw[← hV0];simp[iniV,hh]
  obtain⟨x1,hx1⟩:∃ x,BitVec.ofNat 32 n=x:=⟨_,rfl⟩
  obtain⟨x2,hx2⟩:∃ x,BitVec.ofNat 32 (n/4294967296)=x:=⟨_,rfl⟩
  obtain⟨V1,k1⟩:∃ V,V0.set 12 (gW V0 12^^^x1)=V:=⟨_,rfl⟩
  have l1:V1.length=16:=by rw[← k1,List.length_set,l0]
  obtain⟨V2,k2⟩:∃ V,V1.set 13 (gW V1 13^^^x2)=V:=⟨_,rfl⟩
  have l2:V2.length=16:=by rw[← k2,List.length_set,l1]
  obtain⟨z,hz⟩:∃ z:W,(4294967295:W)=z:=⟨_,rfl⟩
  obtain⟨V3,k3⟩:∃ V,V2.set 14 (z^^^gW V2 14)=V:=⟨_,rfl⟩
  have l3:V3.length=16:=by rw[← k3,List.length_set,l2]
  have hH:H=if last=true then V3 else V2:=by rw[← hHe,← k3,← k2,← k1,← hx1,← hx2,← hV0,← hz];rfl
  have w1:IntKind.u32.wrap (n:Int)=wI x1:=by rw[l2_,hx1]
  have w2:IntKind.u32.wrap ((n:Int).fdiv (2^shN .u64 32))=wI x2:=by
   rw[show shN .u64 32=32 from rfl,Int.fdiv_eq_ediv_of_nonneg _ (by decide),show ((n:Int)/2^32)=((n/4294967296:Nat):Int) by omega,l2_,hx2]
  have w3:∀ a:W,bits .xor .u32 (if IntKind.u32.signed=true then -1 else IntKind.u32.max) (wI a)=wI (z^^^a):=fun a=>by
   rw[← b0_,← hz];rfl
  have lH:H.length=16:=by rw[hH];split<;>assumption
  simp -dsimp[hV0]
  repeat(first|apply wG|(apply wR;simp -dsimp[l0,l1,l2,u32L_len,aA_,aV_,b0_,w1,w2,w3,k1,k2,k3,hV0])|refine aI ?_)
  refine xd_ (mkS 149 [(0,.ptr 1000 0),(8,.ptr 8 0),(9,.ptr 9 0)] (abB h M H)) ?_ ?_
  ·refine WP.cond (b:=last) (by simp) (fun hb=>?_) (fun hb=>?_)
   ·repeat(first|apply wG|(apply wR;simp -dsimp[l0,l1,l2,u32L_len,aA_,aV_,b0_,w1,w2,w3,k1,k2,k3,hV0])|refine aI ?_)
    refine aY_ (af_ [] ?_ ?_)
    ·simp
    ·simp[hH,hb]
   ·refine WP.skip ?_
    exact aY_ (af_ [] (by simp) (by simp[hH,hb]))
  clear hH k1 k2 k3 w1 w2 w3 hx1 hx2 l0 l1 l2 l3 hHe
  simp -dsimp
  repeat(first|apply wG|(apply wR;simp -dsimp[-pu_,sq_,iu_])|refine aI ?_)
  have hp:List.take 160 permD=permD:=List.take_of_length_le (by rw[iu_];exact Nat.le_refl _)
  refine ai_ (fun q S=>∃ r:Nat,q=10-r∧r≤10∧S=ab2 h M H r) 10 (S0:=ab2 h M H 0) (af_ [] (by simp[hp]) (by simp[rndV])) ⟨0,rfl,by omega,rfl⟩ ?_
  rintro _ _ ⟨r,rfl,hr,rfl⟩
  simp -dsimp
  refine sG ?_
  by_cases hr10:r<10
  ·refine cT (by simp;omega) ?_
   refine WP.skip ?_
   have hpa:=v3_ r hr10
   have hpl:=tC_ r hr10
   have er:IntKind.i64.wrap ((r:Int)+1)=((r+1:Nat):Int):=by rw[IntWalk.i64_in _ (by omega)];omega
   have lR:(rndV M H r).length=16:=by rw[kG_,lH]
   have eR:rndV M H (r+1)=diaV M r (colV M r (rndV M H r) 4) 4:=rfl
   generalize rndV M H r=R at *
   simp -dsimp
   repeat(first|apply wG|(apply wR;simp -dsimp[iu_,hpa,cA_])|refine aI ?_)
   refine And.intro (fun a h=>yO_ h) ?_
   repeat(first|apply wG|(apply wR;simp -dsimp[cA_,setL_whole])|refine aI ?_)
   refine ai_ (fun q S=>∃ i:Nat,q=4-i∧i≤4∧S=ab3 h M R r i) 4 (S0:=ab3 h M R r 0) (af_ [] (by simp) (by simp[colV,cA_,setL_whole])) ⟨0,rfl,by omega,rfl⟩ ?_
   rintro _ _ ⟨i,rfl,hi,rfl⟩
   simp -dsimp
   refine sG ?_
   by_cases hi4:i<4
   ·refine cT (by simp;omega) ?_
    refine WP.skip ?_
    have lC:(colV M r R i).length=16:=by rw[h4_,lR]
    have hi':i=0∨i=1∨i=2∨i=3:=by omega
    rcases hi' with rfl|rfl|rfl|rfl
    ·have q0:=hpl 0 (by omega)
     have q1:=hpl 1 (by omega)
     simp -dsimp
     repeat(first|apply wG|(apply wR;simp -dsimp[wrS,cA_,d1_,u32L_len,aA_,hM,q0,q1])|refine aI ?_)
     refine vcStop.call bg_ (gT_ 326 (colV M r R 0) lC 0 4 8 12 (by omega) (by omega) (by omega) (by omega) (gW M (ptA r 0)) (gW M (ptA r 1))) (rl [(1000,9)]) rfl rfl (by simp[BoxLeq]) aGq (fun _ h=>h.elim) (fun ⟨_,h⟩=>h.elim) (fun ⟨_,h⟩=>h.elim) (by simp[BoxLeq]) ?_
     simp -dsimp
     refine sG ?_
     refine loopW.next (ab3 h M R r 1) (af_ [] (by simp[wrS]) (by simp[colV])) 3 (by omega) ⟨1,rfl,by omega,rfl⟩
    ·have q0:=hpl 2 (by omega)
     have q1:=hpl 3 (by omega)
     simp -dsimp
     repeat(first|apply wG|(apply wR;simp -dsimp[wrS,cA_,d1_,u32L_len,aA_,hM,q0,q1])|refine aI ?_)
     refine vcStop.call bg_ (gT_ 326 (colV M r R 1) lC 1 5 9 13 (by omega) (by omega) (by omega) (by omega) (gW M (ptA r 2)) (gW M (ptA r 3))) (rl [(1000,9)]) rfl rfl (by simp[BoxLeq]) aGq (fun _ h=>h.elim) (fun ⟨_,h⟩=>h.elim) (fun ⟨_,h⟩=>h.elim) (by simp[BoxLeq]) ?_
     simp -dsimp
     refine sG ?_
     refine loopW.next (ab3 h M R r 2) (af_ [] (by simp[wrS]) (by simp[colV])) 2 (by omega) ⟨2,rfl,by omega,rfl⟩
    ·have q0:=hpl 4 (by omega)
     have q1:=hpl 5 (by omega)
     simp -dsimp
     repeat(first|apply wG|(apply wR;simp -dsimp[wrS,cA_,d1_,u32L_len,aA_,hM,q0,q1])|refine aI ?_)
     refine vcStop.call bg_ (gT_ 326 (colV M r R 2) lC 2 6 10 14 (by omega) (by omega) (by omega) (by omega) (gW M (ptA r 4)) (gW M (ptA r 5))) (rl [(1000,9)]) rfl rfl (by simp[BoxLeq]) aGq (fun _ h=>h.elim) (fun ⟨_,h⟩=>h.elim) (fun ⟨_,h⟩=>h.elim) (by simp[BoxLeq]) ?_
     simp -dsimp
     refine sG ?_
     refine loopW.next (ab3 h M R r 3) (af_ [] (by simp[wrS]) (by simp[colV])) 1 (by omega) ⟨3,rfl,by omega,rfl⟩
    ·have q0:=hpl 6 (by omega)
     have q1:=hpl 7 (by omega)
     simp -dsimp
     repeat(first|apply wG|(apply wR;simp -dsimp[wrS,cA_,d1_,u32L_len,aA_,hM,q0,q1])|refine aI ?_)
     refine vcStop.call bg_ (gT_ 326 (colV M r R 3) lC 3 7 11 15 (by omega) (by omega) (by omega) (by omega) (gW M (ptA r 6)) (gW M (ptA r 7))) (rl [(1000,9)]) rfl rfl (by simp[BoxLeq]) aGq (fun _ h=>h.elim) (fun ⟨_,h⟩=>h.elim) (fun ⟨_,h⟩=>h.elim) (by simp[BoxLeq]) ?_
     simp -dsimp
     refine sG ?_
     refine loopW.next (ab3 h M R r 4) (af_ [] (by simp[wrS]) (by simp[colV])) 0 (by omega) ⟨4,rfl,by omega,rfl⟩
   ·refine cF (by simp;omega) ?_
    refine WP.exit ?_
    obtain rfl:i=4:=by omega
    have lC0:(colV M r R 4).length=16:=by rw[h4_,lR]
    generalize colV M r R 4=C at *
    simp -dsimp
    refine sG ?_
    refine ai_ (fun q S=>∃ i:Nat,q=4-i∧i≤4∧S=ab4 h M C r i) 4 (S0:=ab4 h M C r 0) (af_ [] (by simp[wrS]) (by simp[diaV])) ⟨0,rfl,by omega,rfl⟩ ?_
    rintro _ _ ⟨i,rfl,hi,rfl⟩
    simp -dsimp
    refine sG ?_
    by_cases hi4:i<4
    ·refine cT (by simp;omega) ?_
     refine WP.skip ?_
     have lC:(diaV M r C i).length=16:=by rw[ly_,lC0]
     have hi':i=0∨i=1∨i=2∨i=3:=by omega
     rcases hi' with rfl|rfl|rfl|rfl
     ·have q0:=hpl 8 (by omega)
      have q1:=hpl 9 (by omega)
      simp -dsimp
      repeat(first|apply wG|(apply wR;simp -dsimp[wrS,cA_,d1_,u32L_len,aA_,hM,q0,q1])|refine aI ?_)
      refine vcStop.call bg_ (gT_ 326 (diaV M r C 0) lC 0 5 10 15 (by omega) (by omega) (by omega) (by omega) (gW M (ptA r 8)) (gW M (ptA r 9))) (rl [(1000,9)]) rfl rfl (by simp[BoxLeq]) aGq (fun _ h=>h.elim) (fun ⟨_,h⟩=>h.elim) (fun ⟨_,h⟩=>h.elim) (by simp[BoxLeq]) ?_
      simp -dsimp
      refine sG ?_
      refine loopW.next (ab4 h M C r 1) (af_ [] (by simp[wrS]) (by simp[diaV])) 3 (by omega) ⟨1,rfl,by omega,rfl⟩
     ·have q0:=hpl 10 (by omega)
      have q1:=hpl 11 (by omega)
      simp -dsimp
      repeat(first|apply wG|(apply wR;simp -dsimp[wrS,cA_,d1_,u32L_len,aA_,hM,q0,q1])|refine aI ?_)
      refine vcStop.call bg_ (gT_ 326 (diaV M r C 1) lC 1 6 11 12 (by omega) (by omega) (by omega) (by omega) (gW M (ptA r 10)) (gW M (ptA r 11))) (rl [(1000,9)]) rfl rfl (by simp[BoxLeq]) aGq (fun _ h=>h.elim) (fun ⟨_,h⟩=>h.elim) (fun ⟨_,h⟩=>h.elim) (by simp[BoxLeq]) ?_
      simp -dsimp
      refine sG ?_
      refine loopW.next (ab4 h M C r 2) (af_ [] (by simp[wrS]) (by simp[diaV])) 2 (by omega) ⟨2,rfl,by omega,rfl⟩
     ·have q0:=hpl 12 (by omega)
      have q1:=hpl 13 (by omega)
      simp -dsimp
      repeat(first|apply wG|(apply wR;simp -dsimp[wrS,cA_,d1_,u32L_len,aA_,hM,q0,q1])|refine aI ?_)
      refine vcStop.call bg_ (gT_ 326 (diaV M r C 2) lC 2 7 8 13 (by omega) (by omega) (by omega) (by omega) (gW M (ptA r 12)) (gW M (ptA r 13))) (rl [(1000,9)]) rfl rfl (by simp[BoxLeq]) aGq (fun _ h=>h.elim) (fun ⟨_,h⟩=>h.elim) (fun ⟨_,h⟩=>h.elim) (by simp[BoxLeq]) ?_
      simp -dsimp
      refine sG ?_
      refine loopW.next (ab4 h M C r 3) (af_ [] (by simp[wrS]) (by simp[diaV])) 1 (by omega) ⟨3,rfl,by omega,rfl⟩
     ·have q0:=hpl 14 (by omega)
      have q1:=hpl 15 (by omega)
      simp -dsimp
      repeat(first|apply wG|(apply wR;simp -dsimp[wrS,cA_,d1_,u32L_len,aA_,hM,q0,q1])|refine aI ?_)
      refine vcStop.call bg_ (gT_ 326 (diaV M r C 3) lC 3 4 9 14 (by omega) (by omega) (by omega) (by omega) (gW M (ptA r 14)) (gW M (ptA r 15))) (rl [(1000,9)]) rfl rfl (by simp[BoxLeq]) aGq (fun _ h=>h.elim) (fun ⟨_,h⟩=>h.elim) (fun ⟨_,h⟩=>h.elim) (by simp[BoxLeq]) ?_
      simp -dsimp
      refine sG ?_
      refine loopW.next (ab4 h M C r 4) (af_ [] (by simp[wrS]) (by simp[diaV])) 0 (by omega) ⟨4,rfl,by omega,rfl⟩
    ·refine cF (by simp;omega) ?_
     refine WP.exit ?_
     obtain rfl:i=4:=by omega
     simp -dsimp
     refine sG ?_
     refine loopW.next (ab2 h M H (r+1)) (af_ [] (by simp[er]) (by simp[eR])) (10-(r+1)) (by omega) ⟨r+1,rfl,by omega,rfl⟩
  ·refine cF (by simp;omega) ?_
   refine WP.exit ?_
   obtain rfl:r=10:=by omega
   have lR:(rndV M H 10).length=16:=by rw[kG_,lH]
   generalize rndV M H 10=R at *
   simp -dsimp
   refine sG ?_
   refine ai_ (fun q S=>∃ i:Nat,q=8-i∧i≤8∧S=ab5 h R i) 8 (S0:=ab5 h R 0) (af_ [] (by simp) (by simp[endV])) ⟨0,rfl,by omega,rfl⟩ ?_
   rintro _ _ ⟨i,rfl,hi,rfl⟩
   simp -dsimp
   refine sG ?_
   by_cases hi8:i<8
   ·refine cT (by simp;omega) ?_
    refine WP.skip ?_
    have lE:(endV h R i).length=8:=by rw[fV_,hh]
    have eE:endV h R (i+1)=(endV h R i).set i (gW (endV h R i) i^^^(gW R i^^^gW R (8+i))):=rfl
    have e1:IntKind.i64.wrap (8+(i:Int))=((8+i:Nat):Int):=by rw[IntWalk.i64_in _ (by omega)];omega
    have e2:IntKind.i64.wrap ((i:Int)+1)=((i+1:Nat):Int):=by rw[IntWalk.i64_in _ (by omega)];omega
    have h1:i<16:=by omega
    have h2:8+i<16:=by omega
    generalize endV h R i=E at *
    obtain⟨k,hk⟩:∃ k,8+i=k:=⟨_,rfl⟩
    rw[hk] at e1 h2 eE
    simp -dsimp
    repeat(first|apply wG|(apply wR;simp -dsimp[u32L_len,aA_,aV_,lE,lR,hi8,h1,h2,e1,b0_])|refine aI ?_)
    refine loopW.next (ab5 h R (i+1)) (af_ [] (by simp[e2]) (by simp[eE])) (8-(i+1)) (by omega) ⟨i+1,rfl,by omega,rfl⟩
   ·refine cF (by simp;omega) ?_
    refine WP.exit ?_
    obtain rfl:i=8:=by omega
    simp -dsimp
    refine sG ?_
    refine cO_ ?_
    simp -dsimp
def dD (d:Dg):D:=.agg (bys d)
theorem ah_ (l:List UInt8):(bys l).length=l.length:=by simp[bys]
theorem u2_ (l:List UInt8) (i:Nat) (c:UInt8):((bys l).map AV.d).set i (.d (.v (.int .u8 (c.toNat:Int))))=(bys (l.set i c)).map AV.d:=by
 rw[show AV.d (.v (.int .u8 (c.toNat:Int)))=AV.d (a8_ c) from rfl,bys,bys,← List.map_set,← List.map_set]
theorem ap_ {l:List UInt8} {d:D} (h:d∈bys l):oneD d=true:=by
 obtain⟨b,_,rfl⟩:=List.mem_map.1 h
 rfl
theorem aF_ (l:List UInt8) (h:l.length=32):List.take 32 ((bys l).map AV.d)=(bys l).map AV.d:=List.take_of_length_le (by simp[bys,h])
theorem bysB_take (l:List UInt8) (n:Nat):bys (l.take n)=(bys l).take n:=by simp[bys]
theorem bys_dropE (l:List UInt8) (n:Nat):bys (l.drop n)=(bys l).drop n:=by simp[bys]
def telB (f:Nat→UInt8) (n i:Nat):List UInt8:=(List.range i).map f++List.replicate (n-i) 0
theorem p4_ (f:Nat→UInt8) (n i:Nat) (h:i≤n):(telB f n i).length=n:=by simp[telB];omega
theorem l5_ (f:Nat→UInt8) (n i:Nat) (h:i<n):(telB f n i).set i (f i)=telB f n (i+1):=by
 unfold telB
 rw[List.set_append_right _ _ (by simp)]
 rw[show n-i=(n-(i+1))+1 by omega,List.replicate_succ]
 simp[List.range_succ]
theorem vH_ (f:Nat→UInt8) (n:Nat):telB f n n=(List.range n).map f:=by simp[telB]
def sumF (b:List UInt8) (i:Nat):UInt8:=UInt8.ofNat ((gW (oq_ b) (i/4)>>>(8*(i%4))).toNat)
theorem sL_ (b:List UInt8):telB (sumF b) 32 32=gb_ b:=vH_ _ _
abbrev suS (b:List UInt8) (k:Nat):St:=mkS 45 [(0,.d (slB (b.drop (64*k)))),(2,.ptr 2 0),(3,.ptr 3 0),(4,.d (.v (.int .u64 (64*k:Nat))))] [(2,.cells 87 ((bys (List.replicate 32 0)).map .d)),(3,.cells 307 ((u32L (absV b k)).map .d))]
abbrev suT (b:List UInt8) (i:Nat):St:=mkS 45 [(2,.ptr 2 0),(3,.ptr 3 0),(29,.d (.v (.int .i64 i)))] [(2,.cells 87 ((bys (telB (sumF b) 32 i)).map .d)),(3,.cells 307 ((u32L (oq_ b)).map .d))]
theorem xt_ (b:List UInt8) (hb:b.length≤1000000000000):Fn0 Tryz.prog 187 [slB b] (dD (gb_ b)):=by
 refine ad_ (pn:=an_) ac_ Tryz.func187 rfl fun β0=>?_
 simp only[Tryz.f187]
 refine sG ?_
 refine ai_ (fun q S=>∃ k:Nat,q=blkN b-k∧k≤blkN b∧S=suS b k) (blkN b) (S0:=suS b 0) (af_ [] (by simp) (by simp;exact⟨rfl,rfl⟩)) ⟨0,rfl,by omega,rfl⟩ ?_
 rintro _ _ ⟨k,rfl,hk,rfl⟩
 obtain⟨c,hc⟩:∃ c,b.drop (64*k)=c:=⟨_,rfl⟩
 have lc:c.length=b.length-64*k:=by rw[← hc,List.length_drop]
 have lz:(List.replicate 32 (0:UInt8)).length=32:=List.length_replicate
 have hkk:blkN b=(b.length-1)/64:=rfl
 simp -dsimp[hc]
 repeat(first|apply wG|(apply wR;simp -dsimp[slB])|refine aI ?_)
 by_cases hkb:k<blkN b
 ·have hl:64<c.length:=by omega
  have ht:(c.take 64).length=64:=by rw[List.length_take];omega
  have hd:(c.drop 64).length=c.length-64:=List.length_drop
  have hd2:b.drop (64*(k+1))=c.drop 64:=by rw[← hc,List.drop_drop];congr 1
  have e1:IntKind.u64.wrap (64*(k:Int)+64)=64*(k:Int)+64:=by rw[IntKind.wrap_u64];omega
  have e2:absV b (k+1)=wS_ (absV b k) (c.take 64) (64*(k+1)) false:=by rw[absV,hc]
  have e3:((64*(k+1):Nat):Int)=64*(k:Int)+64:=by omega
  have e4:((c.length:Int)-64).toNat=c.length-64:=by omega
  have e5:List.take (c.length-64) (List.drop 64 (bys c))=List.drop 64 (bys c):=List.take_of_length_le (by simp[bys])
  refine cT (by simp;omega) ?_
  refine WP.skip ?_
  simp -dsimp
  repeat(first|apply wG|(apply wR;simp -dsimp[slB,e1])|refine aI ?_)
  refine vcStop.call g5_ (nj_ (absV b k) (cQ_ b k) (c.take 64) (by omega) (64*(k+1)) (by omega) false) (rl [(1000,3)]) rfl rfl (by simp[slB,bysB_take,ht,e1,e3,BoxLeq]) (ag_ (by simp[slB,bysB_take,ht,e1,e3,BoxLeq]) rfl (by first|rfl|(simp[slB,bysB_take,ht,e1,e3,BoxLeq];done)) (by simp[slB,bysB_take,ht,e1,e3,BoxLeq]) (by simp[slB,bysB_take,ht,e1,e3,BoxLeq])) (fun _ h=>h.elim) (fun ⟨_,h⟩=>h.elim) (fun ⟨_,h⟩=>h.elim) (by simp[slB,bysB_take,ht,e1,e3,BoxLeq]) ?_
  simp -dsimp
  repeat(first|apply wG|(apply wR;simp -dsimp[slB])|refine aI ?_)
  refine loopW.next (suS b (k+1)) (af_ [] (by simp[slB,hd2,bys_dropE,hd,e1,e3,e4,e5]) (by simp[e2])) (blkN b-(k+1)) (by omega) ⟨k+1,rfl,by omega,rfl⟩
 ·obtain rfl:k=blkN b:=by omega
  refine cF (by simp;omega) ?_
  refine WP.exit ?_
  have hl:c.length≤64:=by omega
  have e1:IntKind.u64.wrap (c.length:Int)=(c.length:Int):=by rw[IntKind.wrap_u64];omega
  have e2:IntKind.u64.wrap (64*((blkN b:Nat):Int)+(c.length:Int))=(b.length:Int):=by rw[IntKind.wrap_u64];omega
  have e3:wS_ (absV b (blkN b)) c b.length true=oq_ b:=by rw[oq_,hc]
  simp -dsimp
  repeat(first|apply wG|(apply wR;simp -dsimp[slB,e1,e2])|refine aI ?_)
  refine vcStop.call g5_ (nj_ (absV b (blkN b)) (cQ_ b _) c hl b.length (by omega) true) (rl [(1000,3)]) rfl rfl (by simp[slB,e1,e2,BoxLeq]) (ag_ (by simp[slB,e1,e2,BoxLeq]) rfl (by first|rfl|(simp[slB,e1,e2,BoxLeq];done)) (by simp[slB,e1,e2,BoxLeq]) (by simp[slB,e1,e2,BoxLeq])) (fun _ h=>h.elim) (fun ⟨_,h⟩=>h.elim) (fun ⟨_,h⟩=>h.elim) (by simp[slB,e1,e2,BoxLeq]) ?_
  simp -dsimp
  repeat(first|apply wG|(apply wR;simp -dsimp[e3])|refine aI ?_)
  refine ai_ (fun q S=>∃ i:Nat,q=32-i∧i≤32∧S=suT b i) 32 (S0:=suT b 0) (af_ [] (by simp) (by simp[telB,e3])) ⟨0,rfl,by omega,rfl⟩ ?_
  rintro _ _ ⟨i,rfl,hi,rfl⟩
  have hf:=lr_ b
  simp -dsimp
  refine sG ?_
  by_cases hi32:i<32
  ·refine cT (by simp;omega) ?_
   refine WP.skip ?_
   obtain⟨q,hq⟩:∃ q,i/4=q:=⟨_,rfl⟩
   obtain⟨m,hm⟩:∃ m,i%4=m:=⟨_,rfl⟩
   have k0:(i:Int).tmod 4=(m:Int):=by rw[Int.tmod_eq_emod_of_nonneg (by omega)];omega
   have k1:IntKind.i64.wrap ((i:Int)/4)=(q:Int):=by rw[IntWalk.i64_in _ (by omega)];omega
   have k2:IntKind.i64.wrap (m:Int)=(m:Int):=by rw[IntWalk.i64_in _ (by omega)]
   have k3:IntKind.i64.wrap (8*(m:Int))=8*(m:Int):=by rw[IntWalk.i64_in _ (by omega)]
   have k4:shN .u32 (8*(m:Int))=8*m:=by simp[shN,IntKind.bits];omega
   have k5:IntKind.i64.wrap ((i:Int)+1)=((i+1:Nat):Int):=by rw[IntWalk.i64_in _ (by omega)];omega
   have h2:q<8:=by omega
   have hn:=l5_ (sumF b) 32 i hi32
   have hsf:sumF b i=UInt8.ofNat ((gW (oq_ b) q>>>(8*m)).toNat):=by rw[sumF,hq,hm]
   have k6:=xr_ (gW (oq_ b) q>>>(8*m))
   rw[← hsf] at k6
   have hl:=p4_ (sumF b) 32 i hi
   generalize sumF b i=x at *
   generalize telB (sumF b) 32 i=l at *
   simp -dsimp
   repeat(first|apply wG|(apply wR;simp -dsimp[k0,k1,k2,k3,k4,hf,h2,hl,ah_,u32L_len,aA_,sB_,k6,u2_,hi32])|refine aI ?_)
   refine loopW.next (suT b (i+1)) (af_ [] (by simp[k5]) (by simp[← hn])) (32-(i+1)) (by omega) ⟨i+1,rfl,by omega,rfl⟩
  ·refine cF (by simp;omega) ?_
   refine WP.exit ?_
   obtain rfl:i=32:=by omega
   have hs:=sL_ b
   have hl:=sumB_len b
   simp -dsimp[hs]
   repeat(first|apply wG|(apply wR;simp -dsimp[ah_,hl,aF_])|refine aI ?_)
   refine And.intro (fun c h=>ap_ h) ?_
   refine WP.ret (ab_ ?_)
   simp -dsimp[setL_whole,aF_,hl]
   exact al_ (bys (gb_ b))
def EZ_:List UInt8:=[0,1,2,2]++(List.replicate 4 3++(List.replicate 8 4++(List.replicate 16 5++(List.replicate 32 6++(List.replicate 64 7++List.replicate 128 8)))))
theorem t4_:∀ n,n<256→((EZ_[n]?).getD 0).toNat=bitL n:=by decide +kernel
theorem FE_ {a b:Int} (h:a=b):Leq (.d (.v (.int .i64 a))) (.d (.v (.int .i64 b))):=by subst h;exact .refl _
theorem u5_:∀ n,n<256→bitL n≤8:=by decide +kernel
theorem zi_ (n:Nat) (hn:n<65536):Fn0 Tryz.prog 240 [.v (.int .u64 n)] (.v (.int .i64 (bitL n))):=by
 refine ad_ (pn:=an_) ac_ Tryz.func240 rfl fun β0=>?_
 simp only[Tryz.f240]
 refine sG ?_
 refine cF (by simp;omega) ?_
 refine WP.skip ?_
 simp -dsimp
 refine sG ?_
 refine cF (by simp;omega) ?_
 refine WP.skip ?_
 simp -dsimp
 refine sG ?_
 by_cases h8:n<256
 ·refine cF (by simp;omega) ?_
  refine WP.skip ?_
  simp -dsimp
  refine sG ?_
  have e:IntKind.u8.wrap (n:Int)=(n:Int):=by rw[IntKind.wrap_u8];omega
  refine And.intro (by rw[e];exact⟨by omega,by show (n:Int)<((256:Nat):Int);omega⟩) ?_
  refine WP.ret (ab_ ?_)
  simp -dsimp
  refine FE_ ?_
  rw[e]
  have h:=t4_ n h8
  have h2:=u5_ n h8
  show IntKind.i64.wrap (IntKind.i64.wrap (((EZ_[n]?).getD 0).toNat:Int))=_
  rw[h,wrS (bitL n:Int) (by omega) (by omega),wrS (bitL n:Int) (by omega) (by omega)]
 ·refine cT (by simp;omega) ?_
  have e0:(n:Int).fdiv (2^shN .u64 8)=((n/256:Nat):Int):=by
   rw[show shN .u64 8=8 from rfl,Int.fdiv_eq_ediv_of_nonneg _ (by decide)];omega
  obtain⟨m,hm⟩:∃ m,n/256=m:=⟨_,rfl⟩
  rw[hm] at e0
  have hm8:m<256:=by omega
  have hb:=Ci_ n (by omega)
  rw[hm] at hb
  repeat(first|apply wG|(apply wR;simp -dsimp[e0])|refine aI ?_)
  have e:IntKind.u8.wrap (m:Int)=(m:Int):=by rw[IntKind.wrap_u8];omega
  refine And.intro (by rw[e];exact⟨by omega,by show (m:Int)<((256:Nat):Int);omega⟩) ?_
  refine WP.ret (ab_ ?_)
  simp -dsimp
  refine FE_ ?_
  rw[e]
  have h:=t4_ m hm8
  have h2:=u5_ m hm8
  show IntKind.i64.wrap (IntKind.i64.wrap 8+IntKind.i64.wrap (((EZ_[m]?).getD 0).toNat:Int))=_
  rw[h,wrS 8 (by omega) (by omega),wrS (bitL m:Int) (by omega) (by omega),wrS (8+(bitL m:Int)) (by omega) (by omega),hb]
  omega
theorem zj_ (n:Nat) (hn:n<65536):Fn0 Tryz.prog 189 [.v (.int .u64 n)] (.v (.int .i64 (bitL n))):=by
 refine ad_ (pn:=an_) ac_ Tryz.func189 rfl fun β0=>?_
 simp only[Tryz.f189]
 refine sG ?_
 refine cF (by simp) ?_
 refine WP.skip ?_
 simp -dsimp
 refine sG ?_
 refine aa_ np_ (zi_ n hn) rfl rfl (by simp) ?_
 simp -dsimp
 refine sG ?_
 refine WP.ret (ab_ ?_)
 simp -dsimp
theorem ue_ (n:Nat) (h2:2≤n) (hn:n≤65536):Fn0 Tryz.prog 122 [.v (.int .i64 n)] (.v (.int .i64 (halfN n))):=by
 have e1:IntKind.i64.wrap ((n:Int)-1)=((n-1:Nat):Int):=by rw[IntWalk.i64_in _ (by omega)];omega
 have e2:IntKind.u64.wrap ((n-1:Nat):Int)=((n-1:Nat):Int):=by rw[IntKind.wrap_u64];omega
 have hb:=uf_ n h2
 have hlt:=ca_ n h2
 have h1:1≤bitL (n-1):=by unfold bitL;rw[if_neg (by omega)];omega
 have h17:bitL (n-1)-1<17:=by
  rcases Nat.lt_or_ge (bitL (n-1)-1) 17 with h|h
  ·exact h
  ·have:=Nat.pow_le_pow_right (n:=2) (by decide) h
   omega
 obtain⟨m,hm⟩:∃ m,n-1=m:=⟨_,rfl⟩
 rw[hm] at e1 e2 hb h1 h17
 obtain⟨k,hk⟩:∃ k,bitL m=k+1:=⟨bitL m-1,by omega⟩
 have hl:=zj_ m (by omega)
 rw[hk] at hl hb h17
 have e3:IntKind.i64.wrap (((k+1:Nat):Int)-1)=(k:Int):=by rw[IntWalk.i64_in _ (by omega)];omega
 have e4:shN .i64 (k:Int)=k:=by simp[shN,IntKind.bits];omega
 have e5:IntKind.i64.wrap (2^k)=((2^k:Nat):Int):=by
  rw[show ((2:Int)^k)=((2^k:Nat):Int) by simp]
  rw[Nat.add_sub_cancel] at hb
  exact IntWalk.i64_in _ (by omega)
 rw[hb,Nat.add_sub_cancel]
 refine ad_ (pn:=an_) ac_ Tryz.func122 rfl fun β0=>?_
 simp only[Tryz.f122]
 repeat(first|apply wG|(apply wR;simp -dsimp[e1,e2])|refine aI ?_)
 refine aa_ nH_ hl rfl rfl (by simp[e1,e2]) ?_
 have e6:IntKind.i64.wrap (k:Int)=(k:Int):=by rw[IntWalk.i64_in _ (by omega)]
 simp -dsimp[e6,e4,e5]
 refine sG ?_
 refine WP.ret (ab_ ?_)
 simp -dsimp
theorem qc_ (x:W) (n:Nat) (h:n=16∨n=12∨n=8∨n=7):Fn0 Tryz.prog 271 [.v (.int .u32 (wI x)),.v (.int .i64 n)] (.v (.int .u32 (wI (rr n x)))):=by
 have e2:IntKind.i64.wrap (32-(n:Int))=((32-n:Nat):Int):=by rcases h with rfl|rfl|rfl|rfl<;>decide
 have e3:shN .u32 ((32-n:Nat):Int)=32-n:=by rcases h with rfl|rfl|rfl|rfl<;>decide
 have e4:shN .u32 (n:Int)=n:=by rcases h with rfl|rfl|rfl|rfl<;>decide
 have e5:=vD_ x (32-n)
 have e6:=sB_ x n
 have e7:(x>>>n)|||(x<<<(32-n))=rr n x:=by rw[rr,BitVec.or_comm]
 have hn:n≤32:=by omega
 refine ad_ (pn:=an_) ac_ Tryz.func271 rfl fun β0=>?_
 simp only[Tryz.f271]
 repeat(first|apply wG|(apply wR;simp -dsimp[e2,e3,e4,e5,e6,Dq_])|refine aI ?_)
 refine WP.ret (ab_ ?_)
 simp -dsimp[e7]
def m4 (a b c d x y:W):W×W×W×W :=
 ((a+b+x)+rr 12 (b^^^(c+rr 16 (d^^^(a+b+x))))+y,
  rr 7 (rr 12 (b^^^(c+rr 16 (d^^^(a+b+x))))^^^((c+rr 16 (d^^^(a+b+x)))+rr 8 (rr 16 (d^^^(a+b+x))^^^((a+b+x)+rr 12 (b^^^(c+rr 16 (d^^^(a+b+x))))+y)))),
  (c+rr 16 (d^^^(a+b+x)))+rr 8 (rr 16 (d^^^(a+b+x))^^^((a+b+x)+rr 12 (b^^^(c+rr 16 (d^^^(a+b+x))))+y)),
  rr 8 (rr 16 (d^^^(a+b+x))^^^((a+b+x)+rr 12 (b^^^(c+rr 16 (d^^^(a+b+x))))+y)))
def wD (x:W):D:=.v (.int .u32 (wI x))
set_option maxRecDepth 10000 in
set_option maxHeartbeats 4000000 in
theorem tm_ (a b c d x y:W):Fn0 Tryz.prog 268 [wD a,wD b,wD c,wD d,wD x,wD y] (.tup [wD (m4 a b c d x y).1,wD (m4 a b c d x y).2.1,wD (m4 a b c d x y).2.2.1,wD (m4 a b c d x y).2.2.2]):=by
 simp only[m4,wD]
 refine ad_ (pn:=an_) ac_ Tryz.func268 rfl fun β0=>?_
 simp only[Tryz.f268]
 repeat(first|apply wG|(apply wR;simp -dsimp[f8_,b0_])|refine aI ?_)
 refine aa_ cR_ (qc_ (d^^^(a+b+x)) 16 (by omega)) rfl rfl (by simp) ?_
 simp -dsimp
 generalize rr 16 (d^^^(a+b+x))=d1
 generalize a+b+x=a1
 repeat(first|apply wG|(apply wR;simp -dsimp[f8_,b0_])|refine aI ?_)
 refine aa_ cR_ (qc_ (b^^^(c+d1)) 12 (by omega)) rfl rfl (by simp) ?_
 simp -dsimp
 generalize rr 12 (b^^^(c+d1))=b1
 generalize c+d1=c1
 repeat(first|apply wG|(apply wR;simp -dsimp[f8_,b0_])|refine aI ?_)
 refine aa_ cR_ (qc_ (d1^^^(a1+b1+y)) 8 (by omega)) rfl rfl (by simp) ?_
 simp -dsimp
 generalize rr 8 (d1^^^(a1+b1+y))=d2
 generalize a1+b1+y=a2
 repeat(first|apply wG|(apply wR;simp -dsimp[f8_,b0_])|refine aI ?_)
 refine aa_ cR_ (qc_ (b1^^^(c1+d2)) 7 (by omega)) rfl rfl (by simp) ?_
 simp -dsimp
 refine sG ?_
 refine WP.ret (ab_ ?_)
 simp -dsimp
theorem fE_:Fn0 Tryz.prog 252 [] (.agg (u32L iniV)):=by
 refine ad_ (pn:=an_) ac_ Tryz.func252 rfl fun β0=>?_
 simp only[Tryz.f252]
 refine sG ?_
 refine WP.ret (ab_ ?_)
 simp -dsimp
 exact al_ (u32L iniV)
abbrev hfS (n k:Nat):St:=mkS 11 [(0,.d (.v (.int .i64 n))),(3,.d (.v (.int .i64 k)))] []
theorem j4_ (n:Nat) (h1:1≤n) (hn:n≤65536):Fn0 Tryz.prog 149 [.v (.int .i64 n)] (.v (.int .i64 (halfN n))):=by
 refine ad_ (pn:=an_) ac_ Tryz.func149 rfl fun β0=>?_
 simp only[Tryz.f149]
 refine sG ?_
 refine ai_ (fun m S=>∃ j:Nat,(2^j<n∨j=0)∧m=n-2^j∧S=hfS n (2^j)) (n-1) (S0:=hfS n 1) (af_ [] (by simp) (by simp)) ⟨0,.inr rfl,rfl,rfl⟩ ?_
 rintro _ _ ⟨j,hj,rfl,rfl⟩
 have hof:=wr_ n j hj
 have hp:0<2^j:=Nat.pow_pos (by decide)
 have hk1:2^j≤n:=by
  rcases hj with h|rfl
  ·omega
  ·simpa using h1
 have hnx:2*2^j<n→(2^(j+1)<n∨j+1=0):=fun h=>.inl (by rw[Nat.pow_succ];omega)
 have hs:2^(j+1)=2*2^j:=by rw[Nat.pow_succ];omega
 have e1:IntKind.i64.wrap (2*((2^j:Nat):Int))=((2*2^j:Nat):Int):=by rw[IntWalk.i64_in _ (by omega)];omega
 generalize hk:2^j=k at *
 simp -dsimp
 repeat(first|apply wG|(apply wR;simp -dsimp[e1])|refine aI ?_)
 by_cases h2:2*k<n
 ·refine cT (by simp;omega) ?_
  refine WP.skip ?_
  simp -dsimp
  repeat(first|apply wG|(apply wR;simp -dsimp[e1])|refine aI ?_)
  refine loopW.next (hfS n (2*k)) (af_ [] (by simp) (by simp)) (n-2*k) (by omega) ⟨j+1,hnx h2,by rw[hs],by rw[hs]⟩
 ·refine cF (by simp;omega) ?_
  refine WP.exit ?_
  simp -dsimp
  refine sG ?_
  rw[hof (by omega) h1]
  refine WP.ret (ab_ ?_)
  simp -dsimp
end Go.Proofs.YtfgcgagcpnbgmaaGreatDoor
