/-
  Joined texts.
-/
import Derived.Test.YtkcgffilldklcaaGreatDoorH9
import Derived.Test.YtkcgffilldklcaaGreatDoorHA
set_option linter.all false
namespace Go.Proofs.YtkcgffilldklcaaGreatDoor
open Go.Xe Go.RowKit
abbrev rb6 (h R:List W) (i:Nat):St:=mkS 182 [(4,.ptr 4 0),(8,.ptr 8 0),(11,.ptr 11 0),(19,.d (.v (.int .i64 i)))] [(4,.cells 258 ((u32L (endV h R i)).map .d)),(8,.cells 258 ((u32L z8).map .d)),(11,.cells 270 ((u32L R).map .d))]
set_option maxRecDepth 10000 in
set_option maxHeartbeats 4000000 in
theorem oN_ (h:List W) (hh:h.length=8) (b:List UInt8) (hb:b.length=64) (n:Nat) (hn:n<18446744073709551616) (last:Bool) :
  Fn0 Tryz.prog 203 [.agg (u32L h),slB b,.v (.int .u64 n),.v (.bool last)] (.agg (u32L (oO_ h b n last))):=by
 have l8:z8.length=8:=rfl
 have li:iniV.length=8:=rfl
 refine ad_ (pn:=an_) ac_ Tryz.func203 rfl fun β0=>?_
 simp only[Tryz.f203]
 refine WP.seq ?_
 refine WP.region ac_ ?_
 simp -dsimp[u32L_len,hh]
 refine And.intro (fun a h=>et_ h) ?_
 refine sG ?_
 refine ai_ (fun q S=>∃ i:Nat,q=64-i∧i≤64∧S=rb1 h b n last i) 64 (S0:=rb1 h b n last 0) (ae_ [] (by simp) (by simp[u32L,wI,u32D,bW_,z8])) ⟨0,rfl,by omega,rfl⟩ ?_
 rintro _ _ ⟨i,rfl,hi,rfl⟩
 refine sH ?_
 by_cases hib:i<64
 ·refine cT (by simp;omega) ?_
  refine WP.skip ?_
  obtain⟨q,hq⟩:∃ q,i/4=q:=⟨_,rfl⟩
  obtain⟨m,hm⟩:∃ m,i%4=m:=⟨_,rfl⟩
  have e0:(i:Int).tmod 4=(m:Int):=by rw[Int.tmod_eq_emod_of_nonneg (by omega)];omega
  have e1:IntKind.i64.wrap ((i:Int)/4)=(q:Int):=by rw[IntWalk.i64_in _ (by omega)];omega
  have e2:IntKind.i64.wrap (m:Int)=(m:Int):=by rw[IntWalk.i64_in _ (by omega)]
  have e3:IntKind.i64.wrap (8*(m:Int))=8*(m:Int):=by rw[IntWalk.i64_in _ (by omega)]
  have e4:shN .u32 (8*(m:Int))=8*m:=by simp[shN,IntKind.bits];omega
  have e5:IntKind.i64.wrap ((i:Int)+1)=((i+1:Nat):Int):=by rw[IntWalk.i64_in _ (by omega)];omega
  have h1:=nf_ b i (by omega)
  have hw:=dT_ b i
  have h2:q<16:=by omega
  obtain⟨x,hx⟩:∃ x,BitVec.ofNat 32 (byA b i).toNat=x:=⟨_,rfl⟩
  have e6:IntKind.u32.wrap ((byA b i).toNat:Int)=wI x:=by rw[hL_,hx]
  have e7:bW_ b (i+1)=(bW_ b i).set q (gW (bW_ b i) q|||x<<<(8*m)):=by rw[bW_,hq,hm,hx]
  have hat:=pd_ b i (by omega)
  generalize byA b i=c at *
  have e8:=vy_ x (8*m)
  generalize x<<<(8*m)=y at *
  simp -dsimp[slB]
  repeat(first|apply wG|(apply wR;simp -dsimp[h1,a6_,e0,e1,e2,e3,e4,e6,e8,hw,h2,hb,hat,hib,ah_,u32L_len,aC_,aY_,DB_])|refine aI ?_)
  refine loopW.next (rb1 h b n last (i+1)) (ae_ [] (by simp[e5,slB,hb]) (by simp[e7])) (64-(i+1)) (by omega) ⟨i+1,rfl,by omega,rfl⟩
 ·refine cF (by simp;omega) ?_
  refine WP.exit ?_
  obtain rfl:i=64:=by omega
  have hM:=dT_ b 64
  obtain⟨M,hMe⟩:∃ M,bW_ b 64=M:=⟨_,rfl⟩
  rw[oO_]
  rw[hMe] at hM ⊢
  simp -dsimp[hMe]
  refine sG ?_
  refine aa_ g9_ fE_ rfl rfl (by simp) ?_
  simp -dsimp
  have lii:(u32L iniV).length=8:=rfl
  generalize hU:u32L iniV=U at *
  have hU1:∀ a∈U,oneD a=true:=fun a h=>by rw[← hU] at h;exact et_ h
  repeat(first|apply wG|(apply wR;simp -dsimp[lii])|refine aI ?_)
  subst hU
  refine ai_ (fun q S=>∃ i:Nat,q=8-i∧i≤8∧S=rb2 h M n last i) 8 (S0:=rb2 h M n last 0) (ae_ [] (by simp) (by simp[u32L,wI,u32D,filV,setL_whole,iniV])) ⟨0,rfl,by omega,rfl⟩ ?_
  rintro _ _ ⟨i,rfl,hi,rfl⟩
  refine sH ?_
  by_cases hi8:i<8
  ·refine cT (by simp;omega) ?_
   refine WP.skip ?_
   have lF:=lu_ h i
   have eF:filV h (i+1)=((filV h i).set i (gW h i)).set (8+i) (gW iniV i):=rfl
   have e1:IntKind.i64.wrap (8+(i:Int))=((8+i:Nat):Int):=by rw[IntWalk.i64_in _ (by omega)];omega
   have e2:IntKind.i64.wrap ((i:Int)+1)=((i+1:Nat):Int):=by rw[IntWalk.i64_in _ (by omega)];omega
   have h1:i<16:=by omega
   have h2:8+i<16:=by omega
   generalize filV h i=F at *
   obtain⟨k,hk⟩:∃ k,8+i=k:=⟨_,rfl⟩
   rw[hk] at e1 h2 eF
   have gh:=aC_ h i (by omega)
   have gi:=aC_ iniV i (by omega)
   simp -dsimp
   repeat(first|apply wG|(apply wR;simp -dsimp[u32L_len,gh,gi,aY_,lF,hh,li,hi8,h1,h2,e1,List.length_set])|refine aI ?_)
   refine loopW.next (rb2 h M n last (i+1)) (ae_ [] (by simp[e2]) (by simp[eF])) (8-(i+1)) (by omega) ⟨i+1,rfl,by omega,rfl⟩
  ·refine cF (by simp;omega) ?_
   refine WP.exit ?_
   obtain rfl:i=8:=by omega
   obtain⟨V0,hV0⟩:∃ V,filV h 8=V:=⟨_,rfl⟩
   have l0:V0.length=16:=by rw[← hV0,lu_]
   obtain⟨x1,hx1⟩:∃ x,BitVec.ofNat 32 n=x:=⟨_,rfl⟩
   obtain⟨x2,hx2⟩:∃ x,BitVec.ofNat 32 (n/4294967296)=x:=⟨_,rfl⟩
   obtain⟨V1,k1⟩:∃ V,V0.set 12 (gW V0 12^^^x1)=V:=⟨_,rfl⟩
   have l1:V1.length=16:=by rw[← k1,List.length_set,l0]
   obtain⟨V2,k2⟩:∃ V,V1.set 13 (gW V1 13^^^x2)=V:=⟨_,rfl⟩
   have l2:V2.length=16:=by rw[← k2,List.length_set,l1]
   obtain⟨z,hz⟩:∃ z:W,(4294967295:W)=z:=⟨_,rfl⟩
   obtain⟨V3,k3⟩:∃ V,V2.set 14 (gW V2 14^^^z)=V:=⟨_,rfl⟩
   have l3:V3.length=16:=by rw[← k3,List.length_set,l2]
   rw[hV0,hx1,k1,hx2,k2,hz,k3]
   obtain⟨H,hH⟩:∃ H,(if last=true then V3 else V2)=H:=⟨_,rfl⟩
   rw[hH]
   have w1:IntKind.u32.wrap (n:Int)=wI x1:=by rw[l2_,hx1]
   have w2:IntKind.u32.wrap ((n:Int).fdiv (2^shN .u64 32))=wI x2:=by
    rw[show shN .u64 32=32 from rfl,Int.fdiv_eq_ediv_of_nonneg _ (by decide),show ((n:Int)/2^32)=((n/4294967296:Nat):Int) by omega,l2_,hx2]
   have w3:∀ a:W,bits .xor .u32 (wI a) 4294967295=wI (a^^^z):=fun a=>by
    rw[← b2_,← hz];rfl
   have lH:H.length=16:=by rw[← hH];split<;>assumption
   simp -dsimp[hV0]
   repeat(first|apply wG|(apply wR;simp -dsimp[l0,l1,l2,u32L_len,aC_,aY_,b2_,w1,w2,w3,k1,k2,k3,hV0])|refine aI ?_)
   refine pj_ (rbh h M H) ?_ ?_
   ·refine WP.cond (b:=last) (by simp) (fun hb=>?_) (fun hb=>?_)
    ·repeat(first|apply wG|(apply wR;simp -dsimp[l0,l1,l2,u32L_len,aC_,aY_,b2_,w1,w2,w3,k1,k2,k3,hV0])|refine aI ?_)
     refine aL_ (ae_ [] ?_ ?_)
     ·simp
     ·simp[← hH,hb]
    ·refine WP.skip ?_
     exact aL_ (ae_ [] (by simp) (by simp[← hH,hb]))
   clear hH k1 k2 k3 w1 w2 w3 hx1 hx2 l0 l1 l2 l3
   refine sH ?_
   refine aa_ nr_ rF_ rfl rfl (by simp) ?_
   simp -dsimp
   repeat(first|apply wG|(apply wR;simp -dsimp[iu_,setL_whole])|refine aI ?_)
   refine ai_ (fun q S=>∃ r:Nat,q=10-r∧r≤10∧S=rb3 h M H r) 10 (S0:=rb3 h M H 0) (ae_ [] (by simp) (by simp[refRs,iu_,setL_whole])) ⟨0,rfl,by omega,rfl⟩ ?_
   rintro _ _ ⟨r,rfl,hr,rfl⟩
   refine sH ?_
   by_cases hr10:r<10
   ·refine cT (by simp;omega) ?_
    refine WP.skip ?_
    have er:IntKind.i64.wrap ((r:Int)+1)=((r+1:Nat):Int):=by rw[IntWalk.i64_in _ (by omega)];omega
    have lR:(refRs M H r).length=16:=by rw[fC_,lH]
    have eR:refRs M H (r+1)=refRd M r (refRs M H r) 8:=rfl
    generalize refRs M H r=R at *
    refine sH ?_
    refine ai_ (fun q S=>∃ i:Nat,q=8-i∧i≤8∧S=rb4 h M R r i) 8 (S0:=rb4 h M R r 0) (ae_ [] (by simp) (by simp[refRd])) ⟨0,rfl,by omega,rfl⟩ ?_
    rintro _ _ ⟨i,rfl,hi,rfl⟩
    refine sH ?_
    by_cases hi8:i<8
    ·refine cT (by simp;omega) ?_
     refine WP.skip ?_
     obtain⟨j,hj⟩:∃ j,i%4=j:=⟨_,rfl⟩
     have e0:(i:Int).tmod 4=(j:Int):=by rw[Int.tmod_eq_emod_of_nonneg (by omega)];omega
     have ej:IntKind.i64.wrap (j:Int)=(j:Int):=by rw[IntWalk.i64_in _ (by omega)]
     have e1:IntKind.i64.wrap (4+(j:Int))=((4+j:Nat):Int):=by rw[IntWalk.i64_in _ (by omega)];omega
     have e2:IntKind.i64.wrap (8+(j:Int))=((8+j:Nat):Int):=by rw[IntWalk.i64_in _ (by omega)];omega
     have e3:IntKind.i64.wrap (12+(j:Int))=((12+j:Nat):Int):=by rw[IntWalk.i64_in _ (by omega)];omega
     have e5:IntKind.i64.wrap ((i:Int)+1)=((i+1:Nat):Int):=by rw[IntWalk.i64_in _ (by omega)];omega
     have lV:(refRd M r R i).length=16:=by rw[fD_,lR]
     obtain⟨⟨a,b',c,d⟩,hp⟩:∃ p,plQ i=p:=⟨_,rfl⟩
     have hn:=rE_ M r R i a b' c d hp
     rw[plQ,hj] at hp
     have hlt:a<16∧b'<16∧c<16∧d<16:=by
      split at hp
      ·simp only[Prod.mk.injEq] at hp;omega
      ·simp only[Prod.mk.injEq] at hp;omega
     obtain⟨ha,hb',hc,hd⟩:=hlt
     generalize refRd M r R i=V at hn lV
     simp -dsimp
     repeat(first|apply wG|(apply wR;simp -dsimp[e0,ej,e1,e2,e3])|refine aI ?_)
     refine pj_ (rb5 h M V r i a b' c d) ?_ ?_
     ·refine WP.cond (b:=decide (4≤i)) (by simp;omega) (fun hb=>?_) (fun hb=>?_)
      ·rw[decide_eq_true_eq] at hb
       rw[if_pos hb] at hp
       simp only[Prod.mk.injEq] at hp
       obtain⟨p1,p2,p3,p4⟩:=hp
       have hj4:j=0∨j=1∨j=2∨j=3:=by omega
       rcases hj4 with rfl|rfl|rfl|rfl
       all_goals
        simp -dsimp
        repeat(first|apply wG|(apply wR;simp -dsimp[wrS])|refine aI ?_)
        refine aL_ (ae_ [] (by simp) (by simp[← p1,← p2,← p3,← p4]))
      ·rw[decide_eq_false_iff_not] at hb
       rw[if_neg hb] at hp
       simp only[Prod.mk.injEq] at hp
       obtain⟨p1,p2,p3,p4⟩:=hp
       refine WP.skip ?_
       exact aL_ (ae_ [] (by simp) (by simp[← p1,← p2,← p3,← p4]))
     clear hp e0 ej e1 e2 e3 hj
     refine F5_ h M V lV hM r i (2*i) a b' c d hr10 hi8 rfl ha hb' hc hd (Q:=_) ?_
     intro S' hS'
     rw[← hn] at hS'
     refine aq_ hS' ?_
     refine sH ?_
     refine loopW.next (rb4 h M R r (i+1)) (ae_ [] (by simp[e5]) (by simp)) (8-(i+1)) (by omega) ⟨i+1,rfl,by omega,rfl⟩
    ·refine cF (by simp;omega) ?_
     refine WP.exit ?_
     obtain rfl:i=8:=by omega
     refine sH ?_
     refine loopW.next (rb3 h M H (r+1)) (ae_ [] (by simp[er]) (by simp[eR])) (10-(r+1)) (by omega) ⟨r+1,rfl,by omega,rfl⟩
   ·refine cF (by simp;omega) ?_
    refine WP.exit ?_
    obtain rfl:r=10:=by omega
    have lR:(refRs M H 10).length=16:=by rw[fC_,lH]
    generalize refRs M H 10=R at *
    refine sH ?_
    refine ai_ (fun q S=>∃ i:Nat,q=8-i∧i≤8∧S=rb6 h R i) 8 (S0:=rb6 h R 0) (ae_ [] (by simp) (by simp[endV])) ⟨0,rfl,by omega,rfl⟩ ?_
    rintro _ _ ⟨i,rfl,hi,rfl⟩
    refine sH ?_
    by_cases hi8:i<8
    ·refine cT (by simp;omega) ?_
     refine WP.skip ?_
     have lE:(endV h R i).length=8:=by rw[fX_,hh]
     have eE:endV h R (i+1)=(endV h R i).set i ((gW (endV h R i) i^^^gW R i)^^^gW R (8+i)):=by rw[endV,BitVec.xor_assoc]
     have e1:IntKind.i64.wrap (8+(i:Int))=((8+i:Nat):Int):=by rw[IntWalk.i64_in _ (by omega)];omega
     have e2:IntKind.i64.wrap ((i:Int)+1)=((i+1:Nat):Int):=by rw[IntWalk.i64_in _ (by omega)];omega
     have h1:i<16:=by omega
     have h2:8+i<16:=by omega
     generalize endV h R i=E at *
     obtain⟨k,hk⟩:∃ k,8+i=k:=⟨_,rfl⟩
     rw[hk] at e1 h2 eE
     simp -dsimp
     repeat(first|apply wG|(apply wR;simp -dsimp[u32L_len,aC_,aY_,lE,lR,hi8,h1,h2,e1,b2_])|refine aI ?_)
     refine loopW.next (rb6 h R (i+1)) (ae_ [] (by simp[e2]) (by simp[eE])) (8-(i+1)) (by omega) ⟨i+1,rfl,by omega,rfl⟩
    ·refine cF (by simp;omega) ?_
     refine WP.exit ?_
     obtain rfl:i=8:=by omega
     have lE:(endV h R 8).length=8:=by rw[fX_,hh]
     generalize endV h R 8=E at *
     have tE:List.take 8 ((u32L E).map AV.d)=(u32L E).map .d:=List.take_of_length_le (by rw[List.length_map,u32L_len,lE];decide)
     simp -dsimp
     repeat(first|apply wG|(apply wR;simp -dsimp[u32L_len,lE,l8,tE])|refine aI ?_)
     refine And.intro (fun c h=>by first|exact et_ h|(obtain⟨d,hd,rfl⟩:=List.mem_map.1 h;exact et_ hd)) ?_
     refine WP.ret (ab_ ?_)
     simp -dsimp[setL_whole,u32L_len,lE,l8,tE]
     try exact al_ (u32L E)
def n64 (k:Nat):Nat:=64*k
def zB (j:Nat):List UInt8:=List.replicate j 0
abbrev smP (b:List UInt8) (j:Nat):St:=mkS 74 [(0,.d (slB b)),(2,.ptr 2 0),(3,.ptr 3 0),(4,.row 500)] [(2,.cells 97 ((bys z32).map .d)),(3,.cells 258 ((u32L (absV b 0)).map .d)),(500,.row 5 1 (b.length+j) ((bys (b++zB j)).map .d))]
def stV (b:List UInt8) (k:Nat):List W:=if k≤blkN b then absV b k else ol_ b
abbrev smK (b:List UInt8) (k:Nat):St:=mkS 74 [(0,.d (slB b)),(2,.ptr 2 0),(3,.ptr 3 0),(4,.d (slB (jI_ b))),(5,.d (.v (.int .i64 (n64 k))))] [(2,.cells 97 ((bys z32).map .d)),(3,.cells 258 ((u32L (stV b k)).map .d))]
abbrev smT (b:List UInt8) (i:Nat):St:=mkS 74 [(2,.ptr 2 0),(3,.ptr 3 0),(8,.ptr 8 0),(9,.d (.v (.int .i64 i)))] [(2,.cells 97 ((bys z32).map .d)),(3,.cells 258 ((u32L (ol_ b)).map .d)),(8,.cells 97 ((bys (telB (sumF b) 32 i)).map .d))]
theorem rH_ (b:List UInt8) (k:Nat) (hk:k≤blkN b):oO_ (absV b k) (((jI_ b).drop (64*k)).take 64) (if k=blkN b then b.length else 64*(k+1)) (decide (k=blkN b))=stV b (k+1):=by
 rw[stV]
 by_cases h:k=blkN b
 ·subst h
  rw[if_pos rfl,decide_eq_true rfl,if_neg (by omega)]
  exact vS_ b
 ·rw[if_neg h,decide_eq_false h,if_pos (by omega)]
  exact yD_ b k (by omega)
set_option maxRecDepth 10000 in
set_option maxHeartbeats 4000000 in
theorem fB_ (b:List UInt8) (hb:b.length≤100000):Fn0 Tryz.prog 187 [slB b] (dD (ge_ b)):=by
 have lz:z32.length=32:=rfl
 refine ad_ (pn:=an_) ac_ Tryz.func187 rfl fun β0=>?_
 simp only[Tryz.f187]
 refine sG ?_
 refine aa_ g9_ fE_ rfl rfl (by simp) ?_
 simp -dsimp
 have lii:(u32L iniV).length=8:=rfl
 have l8:iniV.length=8:=rfl
 have w4:∀ a:W,bits .xor .u32 (wI a) 16842784=wI (a^^^0x01010020):=fun a=>by rw[← b2_];rfl
 have ea:absV b 0=iniV.set 0 (gW iniV 0^^^0x01010020):=rfl
 repeat(first|apply wG|(apply wR;simp -dsimp[lii,setL_whole,u32L_len,aC_,aY_,l8,w4,slB,ah_])|refine aI ?_)
 refine ai_ (fun q S=>∃ j:Nat,q=padN b-j∧j≤padN b∧S=smP b j) (padN b) (S0:=smP b 0) (Wk.go [] 17 500 (by decide) (by simp[slB]) (by simp[slB]) (by simp[slB,zB,ea,setL_whole];try rfl)) ⟨0,rfl,by omega,rfl⟩ ?_
 rintro _ _ ⟨j,rfl,hj,rfl⟩
 have hiff:=v2_ b j hj
 have e1:((b.length:Int)+(j:Int)).tmod 64=(((b.length+j)%64:Nat):Int):=by rw[Int.tmod_eq_emod_of_nonneg (by omega)];omega
 have hzl:(b++zB j).length=b.length+j:=by simp[zB]
 simp -dsimp
 repeat(first|apply wG|(apply wR;simp -dsimp[e1,ah_,hzl])|refine aI ?_)
 by_cases hjp:j<padN b
 ·refine cT (by simp;omega) ?_
  refine WP.skip ?_
  have hzs:zB (j+1)=zB j++[0]:=by rw[zB,List.replicate_succ'];rfl
  have hbz:bys (zB (j+1))=bys (zB j)++[.v (.int .u8 0)]:=by rw[hzs,bys,bys,List.map_append];rfl
  have hp64:padN b≤64:=by unfold padN blkN;omega
  simp -dsimp
  repeat(first|apply wG|(apply wR;simp -dsimp[ah_,hzl])|refine aI ?_)
  refine loopW.next (smP b (j+1)) (Wk.go [28] 29 500 (by decide) (by simp[slB]) (by simp[slB]) (by simp[hbz];try omega)) (padN b-(j+1)) (by omega) ⟨j+1,rfl,by omega,rfl⟩
 ·obtain rfl:j=padN b:=by omega
  refine cF (by simp;omega) ?_
  refine WP.exit ?_
  have hpe:b++zB (padN b)=jI_ b:=rfl
  have hpl:=v3_ b
  have hpn:b.length+padN b=(jI_ b).length:=by rw[← hzl,hpe]
  have hpb:(bys b).map AV.d++(bys (zB (padN b))).map AV.d=(bys (jI_ b)).map .d:=by rw[← hpe,bys,bys,bys,List.map_append,List.map_append]
  simp -dsimp[hpe,hpn]
  refine sG ?_
  refine ai_ (fun q S=>∃ k:Nat,q=blkN b+1-k∧k≤blkN b+1∧S=smK b k) (blkN b+1) (S0:=smK b 0) ((Wk.freeze (k:=500) (T:=5) (sz:=1) (n:=(jI_ b).length) (ds:=bys (jI_ b)) (by simp[hpb])).trans (ae_ [] (by simp[slB,n64]) (by simp[stV]))) ⟨0,rfl,by omega,rfl⟩ ?_
  rintro _ _ ⟨k,rfl,hk,rfl⟩
  have hkk:blkN b=(b.length-1)/64:=rfl
  have hnk:n64 k=64*k:=rfl
  simp -dsimp
  repeat(first|apply wG|(apply wR;simp -dsimp[slB])|refine aI ?_)
  by_cases hkb:k≤blkN b
  ·refine cT (by simp;omega) ?_
   refine WP.skip ?_
   obtain⟨c,hc⟩:∃ c,((jI_ b).drop (64*k)).take 64=c:=⟨_,rfl⟩
   have lc:c.length=64:=by rw[← hc,List.length_take,List.length_drop];omega
   have hst:stV b k=absV b k:=by rw[stV,if_pos hkb]
   have hnx:=rH_ b k hkb
   have ec:List.take 64 (List.drop (n64 k) (bys (jI_ b)))=bys c:=by rw[← hc,bysB_take,bys_dropE,n64]
   rw[hc] at hnx
   have la:=cP_ b k
   have hbk:=oN_ (absV b k) la c lc (if k=blkN b then b.length else 64*(k+1)) (by split<;>omega) (decide (k=blkN b))
   have hS1:(stV b (k+1)).length=8:=by
    rw[stV]
    split
    ·exact cP_ _ _
    ·exact lq_ _
   rw[hnx] at hbk
   generalize hSe:stV b (k+1)=S1 at *
   rw[hst]
   clear hnx hst
   generalize absV b k=S0 at *
   have hn1:n64 (k+1)=n64 k+64:=by unfold n64;omega
   have hnl:n64 (k+1)≤(jI_ b).length:=by unfold n64;omega
   have hne:64*(k+1)=n64 (k+1):=rfl
   rw[hne] at hbk
   have w1:IntKind.i64.wrap ((n64 k:Int)+64)=(n64 (k+1):Int):=by rw[IntWalk.i64_in _ (by omega)];omega
   have w2:IntKind.u64.wrap (n64 (k+1):Int)=(n64 (k+1):Int):=by rw[IntKind.wrap_u64];omega
   have y1:(n64 k:Int)≤(n64 (k+1):Int):=by omega
   have y2:(n64 (k+1):Int)≤((jI_ b).length:Int):=by omega
   have y3:((n64 (k+1):Int)-(n64 k:Int)).toNat=64:=by omega
   have y4:n64 k≤n64 (k+1):=by omega
   have w3:IntKind.u64.wrap (b.length:Int)=(b.length:Int):=by rw[IntKind.wrap_u64];omega
   have tS:List.take 8 (u32L S0)=u32L S0:=List.take_of_length_le (by rw[u32L_len,la];decide)
   have tSm:List.take 8 ((u32L S0).map AV.d)=(u32L S0).map .d:=List.take_of_length_le (by rw[List.length_map,u32L_len,la];decide)
   have t1:List.take 8 ((u32L S1).map AV.d)=(u32L S1).map .d:=List.take_of_length_le (by rw[List.length_map,u32L_len,hS1];decide)
   by_cases hlk:k=blkN b
   ·rw[if_pos hlk,decide_eq_true hlk] at hbk
    have hd:decide ((n64 (k+1):Int)=((jI_ b).length:Int))=true:=by rw[decide_eq_true_iff];unfold n64;omega
    simp -dsimp[slB]
    generalize hN:n64 (k+1)=N2 at *
    generalize n64 k=N1 at *
    repeat(first|apply wG|(apply wR;simp -dsimp[slB,w1,w2,hd])|refine aI ?_)
    refine cT (by simp[hd]) ?_
    repeat(first|apply wG|(apply wR;simp -dsimp[slB,w1,w2,w3,u32L_len,la,tSm,tS,y1,y2,y3,y4,hnl])|refine aI ?_)
    refine ao_ g8_ hbk rfl rfl (And.intro (by simp[tSm,tS];try exact al_ _) (And.intro (by simp[slB,ec,lc]) (And.intro (by simp) (And.intro (by simp) trivial)))) ?_
    simp -dsimp
    repeat(first|apply wG|(apply wR;simp -dsimp[u32L_len,hS1,la,setL_whole,t1])|refine aI ?_)
    refine And.intro ⟨by rw[u32L_len,hS1],by rw[u32L_len,la];exact Nat.le_refl _,fun a h=>et_ h⟩ ?_
    repeat(first|apply wG|(apply wR;simp -dsimp[u32L_len,hS1,la,setL_whole,t1,w1])|refine aI ?_)
    refine loopW.next (smK b (k+1)) (ae_ [] (by simp[slB,w1,hN]) (by simp[hSe,setL_whole,u32L_len,hS1,la])) (blkN b+1-(k+1)) (by omega) ⟨k+1,rfl,by omega,rfl⟩
   ·rw[if_neg hlk,decide_eq_false hlk] at hbk
    have hd:decide ((n64 (k+1):Int)=((jI_ b).length:Int))=false:=by rw[decide_eq_false_iff_not];unfold n64;omega
    simp -dsimp[slB]
    generalize hN:n64 (k+1)=N2 at *
    generalize n64 k=N1 at *
    repeat(first|apply wG|(apply wR;simp -dsimp[slB,w1,w2,hd])|refine aI ?_)
    refine cF (by simp[hd]) ?_
    refine WP.skip ?_
    simp -dsimp
    repeat(first|apply wG|(apply wR;simp -dsimp[slB,w1,w2,w3,u32L_len,la,tSm,tS,y1,y2,y3,y4,hnl])|refine aI ?_)
    refine ao_ g8_ hbk rfl rfl (And.intro (by simp[tSm,tS];try exact al_ _) (And.intro (by simp[slB,ec,lc]) (And.intro (by simp) (And.intro (by simp) trivial)))) ?_
    simp -dsimp
    repeat(first|apply wG|(apply wR;simp -dsimp[u32L_len,hS1,la,setL_whole,t1])|refine aI ?_)
    refine And.intro ⟨by rw[u32L_len,hS1],by rw[u32L_len,la];exact Nat.le_refl _,fun a h=>et_ h⟩ ?_
    repeat(first|apply wG|(apply wR;simp -dsimp[u32L_len,hS1,la,setL_whole,t1,w1])|refine aI ?_)
    refine loopW.next (smK b (k+1)) (ae_ [] (by simp[slB,w1,hN]) (by simp[hSe,setL_whole,u32L_len,hS1,la])) (blkN b+1-(k+1)) (by omega) ⟨k+1,rfl,by omega,rfl⟩
  ·refine cF (by simp;omega) ?_
   refine WP.exit ?_
   have hst:stV b k=ol_ b:=by rw[stV,if_neg hkb]
   have hf:=lq_ b
   simp -dsimp[hst]
   refine sG ?_
   refine ai_ (fun q S=>∃ i:Nat,q=32-i∧i≤32∧S=smT b i) 32 (S0:=smT b 0) (ae_ [] (by simp) (by simp[hst,setL_whole];try rfl)) ⟨0,rfl,by omega,rfl⟩ ?_
   rintro _ _ ⟨i,rfl,hi,rfl⟩
   refine sH ?_
   by_cases hi32:i<32
   ·refine cT (by simp;omega) ?_
    refine WP.skip ?_
    obtain⟨q,hq⟩:∃ q,i/4=q:=⟨_,rfl⟩
    obtain⟨m,hm⟩:∃ m,i%4=m:=⟨_,rfl⟩
    have k0:(i:Int).tmod 4=(m:Int):=by rw[Int.tmod_eq_emod_of_nonneg (by omega)];omega
    have k1:IntKind.i64.wrap ((i:Int)/4)=(q:Int):=by rw[IntWalk.i64_in _ (by omega)];omega
    have k2:IntKind.i64.wrap (m:Int)=(m:Int):=by rw[IntWalk.i64_in _ (by omega)]
    have k3:IntKind.i64.wrap (8*(m:Int))=8*(m:Int):=by rw[IntWalk.i64_in _ (by omega)]
    have k4:shN .u32 (8*(m:Int))=8*m:=by simp[shN,IntKind.bits];omega
    have k5:IntKind.i64.wrap ((i:Int)+1)=((i+1:Nat):Int):=by rw[IntWalk.i64_in _ (by omega)];omega
    have h2:q<8:=by omega
    have hn:=l5_ (sumF b) 32 i hi32
    have hsf:sumF b i=UInt8.ofNat ((gW (ol_ b) q>>>(8*m)).toNat):=by rw[sumF,hq,hm]
    have k6:=xs_ (gW (ol_ b) q>>>(8*m))
    rw[← hsf] at k6
    have hl:=p5_ (sumF b) 32 i hi
    generalize sumF b i=x at *
    generalize telB (sumF b) 32 i=l at *
    simp -dsimp
    repeat(first|apply wG|(apply wR;simp -dsimp[k0,k1,k2,k3,k4,hf,h2,hl,ah_,u32L_len,aC_,sE_,k6,uY_,hi32])|refine aI ?_)
    refine loopW.next (smT b (i+1)) (ae_ [] (by simp[k5]) (by simp[← hn])) (32-(i+1)) (by omega) ⟨i+1,rfl,by omega,rfl⟩
   ·refine cF (by simp;omega) ?_
    refine WP.exit ?_
    obtain rfl:i=32:=by omega
    have hs:=sN_ b
    have hl:=sumB_len b
    simp -dsimp[hs]
    repeat(first|apply wG|(apply wR;simp -dsimp[ah_,hl,lz,aG_])|refine aI ?_)
    refine And.intro (fun c h=>ap_ h) ?_
    refine WP.ret (ab_ ?_)
    simp -dsimp[setL_whole,ah_,aG_,hl,lz]
    exact al_ (bys (ge_ b))
end Go.Proofs.YtkcgffilldklcaaGreatDoor
