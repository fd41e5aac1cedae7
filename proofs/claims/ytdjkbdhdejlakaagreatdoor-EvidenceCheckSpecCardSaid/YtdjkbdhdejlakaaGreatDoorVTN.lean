/-
  Joined texts.
-/
import Derived.Test.YtdjkbdhdejlakaaGreatDoorVTA
import Derived.Test.YtdjkbdhdejlakaaGreatDoorVA
set_option maxRecDepth 10000
set_option maxHeartbeats 4000000
set_option linter.unusedVariables false
set_option linter.unusedSimpArgs false
set_option linter.unusedSectionVars false
namespace Go.Proofs.YtdjkbdhdejlakaaGreatDoor
open Go.Xe Go.RowKit
def permI:List D:=permT.flatten.map fun (k:Nat)=>.v (.int .i64 (k:Int))
theorem h0_:permI.length=160:=rfl
theorem sR_:∀ r,r<10→∀ j,j<16→permT.flatten[r*16+j]? = some (ptA r j):=by decide +kernel
theorem l8_ (r j:Nat) (hr:r<10) (hj:j<16):permI[r*16+j]? = some (.v (.int .i64 (ptA r j:Int))):=by
 rw[permI,List.getElem?_map,sR_ r hr j hj];rfl
theorem ed_ {l:List W} {a:D} (h:a∈u32L l):oneD a=true:=by
 obtain⟨j,_,rfl⟩:=List.mem_map.1 h
 rfl
theorem ra_:Fn0 Tryz.prog 213 [] (.agg permI):=by
 refine ac_ (pn:=ao_) aa_ Tryz.func213 rfl fun β0=>?_
 simp only[Tryz.f213]
 repeat(first|apply wG|(apply wR;simp -dsimp)|refine aI ?_)
 refine WP.ret (ab_ ?_)
 simp -dsimp
 exact ag_ permI
theorem EN_ (a b c d x y:W):m4 a b c d x y=wU_ a b c d x y:=by
 simp only[m4,wU_,wH_]
def plQ (i:Nat):Nat×Nat×Nat×Nat:=if 4≤i then (i%4,4+(i%4+1)%4,8+(i%4+2)%4,12+(i%4+3)%4) else (i%4,4+i%4,8+i%4,12+i%4)
theorem q9_ (m:List W) (r:Nat) (v:List W) (i a b c d:Nat) (h:plQ i=(a,b,c,d)) :
  refRd m r v (i+1)=u5_ (refRd m r v i) a b c d (wU_ (gW (refRd m r v i) a) (gW (refRd m r v i) b) (gW (refRd m r v i) c) (gW (refRd m r v i) d) (gW m (ptA r (2*i))) (gW m (ptA r (2*i+1)))):=by
 rw[refRd]
 rw[show (if 4≤i then (i%4,4+(i%4+1)%4,8+(i%4+2)%4,12+(i%4+3)%4) else (i%4,4+i%4,8+i%4,12+i%4))=plQ i from rfl,h]
def z8:List W:=List.replicate 8 0
abbrev rb1 (h:List W) (b:List UInt8) (n:Nat) (last:Bool) (i:Nat):St :=
 mkS 182 [(1,.d (slB b)),(2,.d (.v (.int .u64 n))),(3,.d (.v (.bool last))),(4,.ptr 4 0),(8,.ptr 8 0),(9,.ptr 9 0),(10,.d (.v (.int .i64 i)))] [(4,.cells 264 ((u32L h).map .d)),(8,.cells 264 ((u32L z8).map .d)),(9,.cells 279 ((u32L (bz_ b i)).map .d))]
abbrev rb2 (h M:List W) (n:Nat) (last:Bool) (i:Nat):St :=
 mkS 182 [(2,.d (.v (.int .u64 n))),(3,.d (.v (.bool last))),(4,.ptr 4 0),(8,.ptr 8 0),(9,.ptr 9 0),(11,.ptr 11 0),(12,.ptr 12 0),(13,.d (.v (.int .i64 i)))] [(4,.cells 264 ((u32L h).map .d)),(8,.cells 264 ((u32L z8).map .d)),(9,.cells 279 ((u32L M).map .d)),(11,.cells 279 ((u32L (filV h i)).map .d)),(12,.cells 264 ((u32L iniV).map .d))]
abbrev rbx (h M V:List W):Bxs:=[(4,.cells 264 ((u32L h).map .d)),(8,.cells 264 ((u32L z8).map .d)),(9,.cells 279 ((u32L M).map .d)),(11,.cells 279 ((u32L V).map .d))]
abbrev rbh (h M V:List W):St:=mkS 182 [(4,.ptr 4 0),(8,.ptr 8 0),(9,.ptr 9 0),(11,.ptr 11 0)] (rbx h M V)
abbrev rb3 (h M H:List W) (r:Nat):St :=
 mkS 182 [(4,.ptr 4 0),(8,.ptr 8 0),(9,.ptr 9 0),(11,.ptr 11 0),(14,.ptr 14 0),(15,.d (.v (.int .i64 r)))] (rbx h M (refRs M H r)++[(14,.cells 287 (permI.map .d))])
abbrev rb4 (h M V:List W) (r i:Nat):St :=
 mkS 182 [(4,.ptr 4 0),(8,.ptr 8 0),(9,.ptr 9 0),(11,.ptr 11 0),(14,.ptr 14 0),(15,.d (.v (.int .i64 r))),(16,.d (.v (.int .i64 i)))] (rbx h M (refRd M r V i)++[(14,.cells 287 (permI.map .d))])
abbrev rb5 (h M V:List W) (r i a b c d:Nat):St :=
 mkS 182 [(4,.ptr 4 0),(8,.ptr 8 0),(9,.ptr 9 0),(11,.ptr 11 0),(14,.ptr 14 0),(15,.d (.v (.int .i64 r))),(16,.d (.v (.int .i64 i))),(18,.ptr 18 0)] (rbx h M V++[(14,.cells 287 (permI.map .d)),(18,.cells 289 [.d (.v (.int .i64 a)),.d (.v (.int .i64 b)),.d (.v (.int .i64 c)),.d (.v (.int .i64 d))])])
/-! ### the code, in parts -/
def Clx:Code→Code
 | .seq a _=>a
 | .loop c=>c
 | .block _ c=>c
 | .cond _ a _=>a
 | c=>c
def Crx:Code→Code
 | .seq _ b=>b
 | .cond _ _ b=>b
 | c=>c
noncomputable def bF0:Code:=Tryz.f205.body.getD .skip
noncomputable def bF1:Code:=Crx (Clx (Crx (Crx (Crx (Crx (Crx (Crx (Crx (Crx (Crx (Crx bF0)))))))))))
noncomputable def bF2:Code:=Crx (Clx (Clx (Crx (Clx (Clx bF1)))))
noncomputable def bF3:Code:=Clx (Clx (Crx (Clx (Clx bF2))))
noncomputable def EF_:Code:=Crx (Crx (Crx bF3))
set_option maxHeartbeats 16000000 in
theorem ET_ (h M V:List W) (lV:V.length=16) (lM:M.length=16) (r i k1 a b c d:Nat) (hr:r<10) (hi:i<8) (hk:2*i=k1) (ha:a<16) (hb:b<16) (hc:c<16) (hd:d<16) {β0:Nat→Value} {Q:Exit→St→Prop}
  (hQ:∀ S',Wk S' (rb5 h M (u5_ V a b c d (wU_ (gW V a) (gW V b) (gW V c) (gW V d) (gW M (ptA r k1)) (gW M (ptA r (k1+1))))) r i a b c d)→Q .normal S') :
  WP Tryz.prog ⟨[],β0,none,false⟩ ao_ EF_ Q (rb5 h M V r i a b c d):=by
 have f1:IntKind.i64.wrap (2*(i:Int))=(k1:Int):=by rw[IntWalk.i64_in _ (by omega)];omega
 have f2:IntKind.i64.wrap ((k1:Int)+1)=((k1+1:Nat):Int):=by rw[IntWalk.i64_in _ (by omega)];omega
 have g1:=l8_ r k1 hr (by omega)
 have g2:=l8_ r (k1+1) hr (by omega)
 have q1:=sM_ r hr k1 (by omega)
 have q2:=sM_ r hr (k1+1) (by omega)
 have hk16:k1<16:=by omega
 have hk17:k1+1<16:=by omega
 have hmx:=sH_ (gW V a) (gW V b) (gW V c) (gW V d) (gW M (ptA r k1)) (gW M (ptA r (k1+1)))
 rw[EN_] at hmx
 obtain⟨t1,ht1⟩:∃ t,ptA r k1=t:=⟨_,rfl⟩
 obtain⟨t2,ht2⟩:∃ t,ptA r (k1+1)=t:=⟨_,rfl⟩
 have ga1:atL (permI.map .d) (r*16+k1)=.d (.v (.int .i64 (t1:Int))):=by rw[← b6_,List.getElem?_map,g1,ht1];rfl
 have ga2:atL (permI.map .d) (r*16+(k1+1))=.d (.v (.int .i64 (t2:Int))):=by rw[← b6_,List.getElem?_map,g2,ht2];rfl
 rw[ht1] at g1 q1
 rw[ht2] at g2 q2
 rw[ht1,ht2] at hmx hQ
 obtain⟨⟨Q1,Q2,Q3,Q4⟩,hq⟩:∃ q,wU_ (gW V a) (gW V b) (gW V c) (gW V d) (gW M t1) (gW M t2)=q:=⟨_,rfl⟩
 rw[hq] at hmx hQ
 rw[u5_] at hQ
 simp only[wD] at hmx hQ
 simp only[EF_,bF3,bF2,bF1,bF0,Tryz.f205,Clx,Crx,Option.getD]
 simp -dsimp
 refine uo_ aa_ eo_ ?_
 simp (maxSteps:=3000000) -dsimp[u32L_len,ay_,lV,lM,ha,hb,hc,hd,hr,hk16,hk17,f1,f2,q1,q2,h0_,ga1,ga2]
 refine And.intro (by omega) ?_
 refine And.intro (by omega) ?_
 refine And.intro (by omega) ?_
 refine And.intro (by omega) ?_
 refine And.intro (by omega) ?_
 refine And.intro (by omega) ?_
 refine And.intro (by omega) ?_
 refine And.intro (by omega) ?_
 refine And.intro (by omega) ?_
 refine And.intro (by omega) ?_
 refine And.intro (by omega) ?_
 refine And.intro (by omega) ?_
 refine And.intro (by omega) ?_
 refine And.intro (by omega) ?_
 refine And.intro (by omega) ?_
 refine And.intro (by omega) ?_
 refine And.intro (by omega) ?_
 refine And.intro (by omega) ?_
 refine ad_ mR_ hmx rfl rfl (by simp) ?_
 simp (maxSteps:=3000000) -dsimp[u32L_len,ay_,aO_,List.length_set,lV,lM,ha,hb,hc,hd]
 refine And.intro (by omega) ?_
 refine And.intro (by omega) ?_
 refine And.intro (by omega) ?_
 refine And.intro (by omega) ?_
 refine And.intro (by omega) ?_
 refine And.intro (by omega) ?_
 refine And.intro (by omega) ?_
 refine And.intro (by omega) ?_
 refine And.intro (by kernel_rfl) ?_
 exact hQ _ (ae_ [] (by simp) (by simp))
abbrev rb6 (h R:List W) (i:Nat):St:=mkS 182 [(4,.ptr 4 0),(8,.ptr 8 0),(11,.ptr 11 0),(19,.d (.v (.int .i64 i)))] [(4,.cells 264 ((u32L (endV h R i)).map .d)),(8,.cells 264 ((u32L z8).map .d)),(11,.cells 279 ((u32L R).map .d))]
theorem nU_ (h:List W) (hh:h.length=8) (b:List UInt8) (hb:b.length=64) (n:Nat) (hn:n<18446744073709551616) (last:Bool) :
  Fn0 Tryz.prog 205 [.agg (u32L h),slB b,.v (.int .u64 n),.v (.bool last)] (.agg (u32L (nV_ h b n last))):=by
 have l8:z8.length=8:=rfl
 have li:iniV.length=8:=rfl
 refine ac_ (pn:=ao_) aa_ Tryz.func205 rfl fun β0=>?_
 simp only[Tryz.f205]
 refine WP.seq ?_
 refine WP.region aa_ ?_
 simp -dsimp[u32L_len,hh]
 refine And.intro (fun a h=>ed_ h) ?_
 repeat(first|apply wG|(apply wR;simp -dsimp)|refine aI ?_)
 refine ak_ (fun q S=>∃ i:Nat,q=64-i∧i≤64∧S=rb1 h b n last i) 64 (S0:=rb1 h b n last 0) (ae_ [] (by simp) (by simp[u32L,wI,u32D,bz_,z8])) ⟨0,rfl,by omega,rfl⟩ ?_
 rintro _ _ ⟨i,rfl,hi,rfl⟩
 simp -dsimp
 repeat(first|apply wG|(apply wR;simp -dsimp)|refine aI ?_)
 by_cases hib:i<64
 ·refine cT (by simp;omega) ?_
  refine WP.skip ?_
  obtain⟨q,hq⟩:∃ q,i/4=q:=⟨_,rfl⟩
  obtain⟨m,hm⟩:∃ m,i%4=m:=⟨_,rfl⟩
  have e0:(i:Int).tmod 4=(m:Int):=by rw[Int.tmod_eq_emod_of_nonneg (by omega)];omega
  have e1:IntKind.i64.wrap ((i:Int)/4)=(q:Int):=by rw[IntWalk.i64_in _ (by omega)];omega
  have e2:IntKind.i64.wrap (m:Int)=(m:Int):=by rw[IntWalk.i64_in _ (by omega)]
  have e3:IntKind.i64.wrap (8*(m:Int))=8*(m:Int):=by rw[IntWalk.i64_in _ (by omega)]
  have e4:shN .u32 (8*(m:Int))=8*m:=by simp[shN,IntKind.bits];omega
  have e5:IntKind.i64.wrap ((i:Int)+1)=((i+1:Nat):Int):=by rw[IntWalk.i64_in _ (by omega)];omega
  have h1:=mH_ b i (by omega)
  have hw:=dM_ b i
  have h2:q<16:=by omega
  obtain⟨x,hx⟩:∃ x,BitVec.ofNat 32 (byA b i).toNat=x:=⟨_,rfl⟩
  have e6:IntKind.u32.wrap ((byA b i).toNat:Int)=wI x:=by rw[pr_,hx]
  have e7:bz_ b (i+1)=(bz_ b i).set q (gW (bz_ b i) q|||x<<<(8*m)):=by rw[bz_,hq,hm,hx]
  have hat:=on_ b i (by omega)
  generalize byA b i=c at *
  have e8:=uF_ x (8*m)
  generalize x<<<(8*m)=y at *
  simp -dsimp[slB]
  repeat(first|apply wG|(apply wR;simp -dsimp[h1,aS_,e0,e1,e2,e3,e4,e6,e8,hw,h2,hb,hat,hib,bys_len,u32L_len,ay_,aO_,Cf_])|refine aI ?_)
  refine loopW.next (rb1 h b n last (i+1)) (ae_ [] (by simp[e5,slB,hb]) (by simp[e7])) (64-(i+1)) (by omega) ⟨i+1,rfl,by omega,rfl⟩
 ·refine cF (by simp;omega) ?_
  refine WP.exit ?_
  obtain rfl:i=64:=by omega
  have hM:=dM_ b 64
  obtain⟨M,hMe⟩:∃ M,bz_ b 64=M:=⟨_,rfl⟩
  rw[nV_]
  rw[hMe] at hM ⊢
  simp -dsimp[hMe]
  repeat(first|apply wG|(apply wR;simp -dsimp)|refine aI ?_)
  refine ad_ gJ_ fp_ rfl rfl (by simp) ?_
  simp -dsimp
  have lii:(u32L iniV).length=8:=rfl
  generalize hU:u32L iniV=U at *
  have hU1:∀ a∈U,oneD a=true:=fun a h=>by rw[← hU] at h;exact ed_ h
  repeat(first|apply wG|(apply wR;simp -dsimp[lii])|refine aI ?_)
  subst hU
  refine ak_ (fun q S=>∃ i:Nat,q=8-i∧i≤8∧S=rb2 h M n last i) 8 (S0:=rb2 h M n last 0) (ae_ [] (by simp) (by simp[u32L,wI,u32D,filV,setL_whole,iniV])) ⟨0,rfl,by omega,rfl⟩ ?_
  rintro _ _ ⟨i,rfl,hi,rfl⟩
  simp -dsimp
  repeat(first|apply wG|(apply wR;simp -dsimp)|refine aI ?_)
  by_cases hi8:i<8
  ·refine cT (by simp;omega) ?_
   refine WP.skip ?_
   have lF:=k3_ h i
   have eF:filV h (i+1)=((filV h i).set i (gW h i)).set (8+i) (gW iniV i):=rfl
   have e1:IntKind.i64.wrap (8+(i:Int))=((8+i:Nat):Int):=by rw[IntWalk.i64_in _ (by omega)];omega
   have e2:IntKind.i64.wrap ((i:Int)+1)=((i+1:Nat):Int):=by rw[IntWalk.i64_in _ (by omega)];omega
   have h1:i<16:=by omega
   have h2:8+i<16:=by omega
   generalize filV h i=F at *
   obtain⟨k,hk⟩:∃ k,8+i=k:=⟨_,rfl⟩
   rw[hk] at e1 h2 eF
   have gh:=ay_ h i (by omega)
   have gi:=ay_ iniV i (by omega)
   simp -dsimp
   repeat(first|apply wG|(apply wR;simp -dsimp[u32L_len,gh,gi,aO_,lF,hh,li,hi8,h1,h2,e1,List.length_set])|refine aI ?_)
   refine loopW.next (rb2 h M n last (i+1)) (ae_ [] (by simp[e2]) (by simp[eF])) (8-(i+1)) (by omega) ⟨i+1,rfl,by omega,rfl⟩
  ·refine cF (by simp;omega) ?_
   refine WP.exit ?_
   obtain rfl:i=8:=by omega
   obtain⟨V0,hV0⟩:∃ V,filV h 8=V:=⟨_,rfl⟩
   have l0:V0.length=16:=by rw[← hV0,k3_]
   obtain⟨x1,hx1⟩:∃ x,BitVec.ofNat 32 n=x:=⟨_,rfl⟩
   obtain⟨x2,hx2⟩:∃ x,BitVec.ofNat 32 (n/4294967296)=x:=⟨_,rfl⟩
   obtain⟨V1,k1⟩:∃ V,V0.set 12 (gW V0 12^^^x1)=V:=⟨_,rfl⟩
   have l1:V1.length=16:=by rw[← k1,List.length_set,l0]
   obtain⟨V2,k2⟩:∃ V,V1.set 13 (gW V1 13^^^x2)=V:=⟨_,rfl⟩
   have l2:V2.length=16:=by rw[← k2,List.length_set,l1]
   obtain⟨z,hz⟩:∃ z:W,(4294967295:W)=z:=⟨_,rfl⟩
   obtain⟨V3,k3⟩:∃ V,V2.set 14 (gW V2 14^^^z)=V:=⟨_,rfl⟩
   have l3:V3.length=16:=by rw[← k3,List.length_set,l2]
   rw[hV0,hx1,k1,hx2,k2,hz,k3]
   obtain⟨H,hH⟩:∃ H,(if last=true then V3 else V2)=H:=⟨_,rfl⟩
   rw[hH]
   have w1:IntKind.u32.wrap (n:Int)=wI x1:=by rw[lz_,hx1]
   have w2:IntKind.u32.wrap ((n:Int).fdiv (2^shN .u64 32))=wI x2:=by
    rw[show shN .u64 32=32 from rfl,Int.fdiv_eq_ediv_of_nonneg _ (by decide),show ((n:Int)/2^32)=((n/4294967296:Nat):Int) by omega,lz_,hx2]
   have w3:∀ a:W,bits .xor .u32 (wI a) 4294967295=wI (a^^^z):=fun a=>by
    rw[← cB_,← hz];rfl
   have lH:H.length=16:=by rw[← hH];split<;>assumption
   simp -dsimp[hV0]
   repeat(first|apply wG|(apply wR;simp -dsimp[l0,l1,l2,u32L_len,ay_,aO_,cB_,w1,w2,w3,k1,k2,k3,hV0])|refine aI ?_)
   refine yU_ (rbh h M H) ?_ ?_
   ·refine WP.cond (b:=last) (by simp) (fun hb=>?_) (fun hb=>?_)
    ·repeat(first|apply wG|(apply wR;simp -dsimp[l0,l1,l2,u32L_len,ay_,aO_,cB_,w1,w2,w3,k1,k2,k3,hV0])|refine aI ?_)
     refine a1_ (ae_ [] ?_ ?_)
     ·simp
     ·simp[← hH,hb]
    ·refine WP.skip ?_
     exact a1_ (ae_ [] (by simp) (by simp[← hH,hb]))
   clear hH k1 k2 k3 w1 w2 w3 hx1 hx2 l0 l1 l2 l3
   simp -dsimp
   repeat(first|apply wG|(apply wR;simp -dsimp)|refine aI ?_)
   refine ad_ mS_ ra_ rfl rfl (by simp) ?_
   simp -dsimp
   repeat(first|apply wG|(apply wR;simp -dsimp[h0_,setL_whole])|refine aI ?_)
   refine ak_ (fun q S=>∃ r:Nat,q=10-r∧r≤10∧S=rb3 h M H r) 10 (S0:=rb3 h M H 0) (ae_ [] (by simp) (by simp[refRs,h0_,setL_whole])) ⟨0,rfl,by omega,rfl⟩ ?_
   rintro _ _ ⟨r,rfl,hr,rfl⟩
   simp -dsimp
   repeat(first|apply wG|(apply wR;simp -dsimp)|refine aI ?_)
   by_cases hr10:r<10
   ·refine cT (by simp;omega) ?_
    refine WP.skip ?_
    have er:IntKind.i64.wrap ((r:Int)+1)=((r+1:Nat):Int):=by rw[IntWalk.i64_in _ (by omega)];omega
    have lR:(refRs M H r).length=16:=by rw[fn_,lH]
    have eR:refRs M H (r+1)=refRd M r (refRs M H r) 8:=rfl
    generalize refRs M H r=R at *
    simp -dsimp
    repeat(first|apply wG|(apply wR;simp -dsimp)|refine aI ?_)
    refine ak_ (fun q S=>∃ i:Nat,q=8-i∧i≤8∧S=rb4 h M R r i) 8 (S0:=rb4 h M R r 0) (ae_ [] (by simp) (by simp[refRd])) ⟨0,rfl,by omega,rfl⟩ ?_
    rintro _ _ ⟨i,rfl,hi,rfl⟩
    simp -dsimp
    repeat(first|apply wG|(apply wR;simp -dsimp)|refine aI ?_)
    by_cases hi8:i<8
    ·refine cT (by simp;omega) ?_
     refine WP.skip ?_
     obtain⟨j,hj⟩:∃ j,i%4=j:=⟨_,rfl⟩
     have e0:(i:Int).tmod 4=(j:Int):=by rw[Int.tmod_eq_emod_of_nonneg (by omega)];omega
     have ej:IntKind.i64.wrap (j:Int)=(j:Int):=by rw[IntWalk.i64_in _ (by omega)]
     have e1:IntKind.i64.wrap (4+(j:Int))=((4+j:Nat):Int):=by rw[IntWalk.i64_in _ (by omega)];omega
     have e2:IntKind.i64.wrap (8+(j:Int))=((8+j:Nat):Int):=by rw[IntWalk.i64_in _ (by omega)];omega
     have e3:IntKind.i64.wrap (12+(j:Int))=((12+j:Nat):Int):=by rw[IntWalk.i64_in _ (by omega)];omega
     have e5:IntKind.i64.wrap ((i:Int)+1)=((i+1:Nat):Int):=by rw[IntWalk.i64_in _ (by omega)];omega
     have lV:(refRd M r R i).length=16:=by rw[fo_,lR]
     obtain⟨⟨a,b',c,d⟩,hp⟩:∃ p,plQ i=p:=⟨_,rfl⟩
     have hn:=q9_ M r R i a b' c d hp
     rw[plQ,hj] at hp
     have hlt:a<16∧b'<16∧c<16∧d<16:=by
      split at hp
      ·simp only[Prod.mk.injEq] at hp;omega
      ·simp only[Prod.mk.injEq] at hp;omega
     obtain⟨ha,hb',hc,hd⟩:=hlt
     generalize refRd M r R i=V at hn lV
     simp -dsimp
     repeat(first|apply wG|(apply wR;simp -dsimp[e0,ej,e1,e2,e3])|refine aI ?_)
     refine yU_ (rb5 h M V r i a b' c d) ?_ ?_
     ·refine WP.cond (b:=decide (4≤i)) (by simp;omega) (fun hb=>?_) (fun hb=>?_)
      ·rw[decide_eq_true_eq] at hb
       rw[if_pos hb] at hp
       simp only[Prod.mk.injEq] at hp
       obtain⟨p1,p2,p3,p4⟩:=hp
       have hj4:j=0∨j=1∨j=2∨j=3:=by omega
       rcases hj4 with rfl|rfl|rfl|rfl
       all_goals
        simp -dsimp
        repeat(first|apply wG|(apply wR;simp -dsimp[wrS])|refine aI ?_)
        refine a1_ (ae_ [] (by simp) (by simp[← p1,← p2,← p3,← p4]))
      ·rw[decide_eq_false_iff_not] at hb
       rw[if_neg hb] at hp
       simp only[Prod.mk.injEq] at hp
       obtain⟨p1,p2,p3,p4⟩:=hp
       refine WP.skip ?_
       exact a1_ (ae_ [] (by simp) (by simp[← p1,← p2,← p3,← p4]))
     clear hp e0 ej e1 e2 e3 hj
     refine ET_ h M V lV hM r i (2*i) a b' c d hr10 hi8 rfl ha hb' hc hd (Q:=_) ?_
     intro S' hS'
     rw[← hn] at hS'
     refine aw_ hS' ?_
     simp -dsimp
     repeat(first|apply wG|(apply wR;simp -dsimp)|refine aI ?_)
     refine loopW.next (rb4 h M R r (i+1)) (ae_ [] (by simp[e5]) (by simp)) (8-(i+1)) (by omega) ⟨i+1,rfl,by omega,rfl⟩
    ·refine cF (by simp;omega) ?_
     refine WP.exit ?_
     obtain rfl:i=8:=by omega
     simp -dsimp
     repeat(first|apply wG|(apply wR;simp -dsimp)|refine aI ?_)
     refine loopW.next (rb3 h M H (r+1)) (ae_ [] (by simp[er]) (by simp[eR])) (10-(r+1)) (by omega) ⟨r+1,rfl,by omega,rfl⟩
   ·refine cF (by simp;omega) ?_
    refine WP.exit ?_
    obtain rfl:r=10:=by omega
    have lR:(refRs M H 10).length=16:=by rw[fn_,lH]
    generalize refRs M H 10=R at *
    simp -dsimp
    repeat(first|apply wG|(apply wR;simp -dsimp)|refine aI ?_)
    refine ak_ (fun q S=>∃ i:Nat,q=8-i∧i≤8∧S=rb6 h R i) 8 (S0:=rb6 h R 0) (ae_ [] (by simp) (by simp[endV])) ⟨0,rfl,by omega,rfl⟩ ?_
    rintro _ _ ⟨i,rfl,hi,rfl⟩
    simp -dsimp
    repeat(first|apply wG|(apply wR;simp -dsimp)|refine aI ?_)
    by_cases hi8:i<8
    ·refine cT (by simp;omega) ?_
     refine WP.skip ?_
     have lE:(endV h R i).length=8:=by rw[fO_,hh]
     have eE:endV h R (i+1)=(endV h R i).set i ((gW (endV h R i) i^^^gW R i)^^^gW R (8+i)):=by rw[endV,BitVec.xor_assoc]
     have e1:IntKind.i64.wrap (8+(i:Int))=((8+i:Nat):Int):=by rw[IntWalk.i64_in _ (by omega)];omega
     have e2:IntKind.i64.wrap ((i:Int)+1)=((i+1:Nat):Int):=by rw[IntWalk.i64_in _ (by omega)];omega
     have h1:i<16:=by omega
     have h2:8+i<16:=by omega
     generalize endV h R i=E at *
     obtain⟨k,hk⟩:∃ k,8+i=k:=⟨_,rfl⟩
     rw[hk] at e1 h2 eE
     simp -dsimp
     repeat(first|apply wG|(apply wR;simp -dsimp[u32L_len,ay_,aO_,lE,lR,hi8,h1,h2,e1,cB_])|refine aI ?_)
     refine loopW.next (rb6 h R (i+1)) (ae_ [] (by simp[e2]) (by simp[eE])) (8-(i+1)) (by omega) ⟨i+1,rfl,by omega,rfl⟩
    ·refine cF (by simp;omega) ?_
     refine WP.exit ?_
     obtain rfl:i=8:=by omega
     have lE:(endV h R 8).length=8:=by rw[fO_,hh]
     generalize endV h R 8=E at *
     have tE:List.take 8 ((u32L E).map AV.d)=(u32L E).map .d:=List.take_of_length_le (by rw[List.length_map,u32L_len,lE];decide)
     simp -dsimp
     repeat(first|apply wG|(apply wR;simp -dsimp[u32L_len,lE,l8,tE])|refine aI ?_)
     refine And.intro (fun c h=>by first|exact ed_ h|(obtain⟨d,hd,rfl⟩:=List.mem_map.1 h;exact ed_ hd)) ?_
     refine WP.ret (ab_ ?_)
     simp -dsimp[setL_whole,u32L_len,lE,l8,tE]
     try exact ag_ (u32L E)
def n64 (k:Nat):Nat:=64*k
def zB (j:Nat):List UInt8:=List.replicate j 0
abbrev smP (b:List UInt8) (j:Nat):St:=mkS 74 [(0,.d (slB b)),(2,.ptr 2 0),(3,.ptr 3 0),(4,.row 500)] [(2,.cells 74 ((bys z32).map .d)),(3,.cells 264 ((u32L (absV b 0)).map .d)),(500,.row 5 1 (b.length+j) ((bys (b++zB j)).map .d))]
def stV (b:List UInt8) (k:Nat):List W:=if k≤blkN b then absV b k else nB_ b
abbrev smK (b:List UInt8) (k:Nat):St:=mkS 74 [(0,.d (slB b)),(2,.ptr 2 0),(3,.ptr 3 0),(4,.d (slB (jc_ b))),(5,.d (.v (.int .i64 (n64 k))))] [(2,.cells 74 ((bys z32).map .d)),(3,.cells 264 ((u32L (stV b k)).map .d))]
abbrev smT (b:List UInt8) (i:Nat):St:=mkS 74 [(2,.ptr 2 0),(3,.ptr 3 0),(8,.ptr 8 0),(9,.d (.v (.int .i64 i)))] [(2,.cells 74 ((bys z32).map .d)),(3,.cells 264 ((u32L (nB_ b)).map .d)),(8,.cells 74 ((bys (telB (sumF b) 32 i)).map .d))]
theorem rb_ (b:List UInt8) (k:Nat) (hk:k≤blkN b):nV_ (absV b k) (((jc_ b).drop (64*k)).take 64) (if k=blkN b then b.length else 64*(k+1)) (decide (k=blkN b))=stV b (k+1):=by
 rw[stV]
 by_cases h:k=blkN b
 ·subst h
  rw[if_pos rfl,decide_eq_true rfl,if_neg (by omega)]
  exact u3_ b
 ·rw[if_neg h,decide_eq_false h,if_pos (by omega)]
  exact xI_ b k (by omega)
theorem lR_ (b:List UInt8) (hb:b.length≤100000):Fn0 Tryz.prog 182 [slB b] (dD (hL_ b)):=by
 have lz:z32.length=32:=rfl
 refine ac_ (pn:=ao_) aa_ Tryz.func182 rfl fun β0=>?_
 simp only[Tryz.f182]
 repeat(first|apply wG|(apply wR;simp -dsimp)|refine aI ?_)
 refine ad_ gJ_ fp_ rfl rfl (by simp) ?_
 simp -dsimp
 have lii:(u32L iniV).length=8:=rfl
 have l8:iniV.length=8:=rfl
 have w4:∀ a:W,bits .xor .u32 (wI a) 16842784=wI (a^^^0x01010020):=fun a=>by rw[← cB_];rfl
 have ea:absV b 0=iniV.set 0 (gW iniV 0^^^0x01010020):=rfl
 repeat(first|apply wG|(apply wR;simp -dsimp[lii,setL_whole,u32L_len,ay_,aO_,l8,w4,slB,bys_len])|refine aI ?_)
 refine ak_ (fun q S=>∃ j:Nat,q=padN b-j∧j≤padN b∧S=smP b j) (padN b) (S0:=smP b 0) (Wk.go [] 17 500 (by decide) (by simp[slB]) (by simp[slB]) (by simp[slB,zB,ea,setL_whole];try rfl)) ⟨0,rfl,by omega,rfl⟩ ?_
 rintro _ _ ⟨j,rfl,hj,rfl⟩
 have hiff:=u8_ b j hj
 have e1:((b.length:Int)+(j:Int)).tmod 64=(((b.length+j)%64:Nat):Int):=by rw[Int.tmod_eq_emod_of_nonneg (by omega)];omega
 have hzl:(b++zB j).length=b.length+j:=by simp[zB]
 simp -dsimp
 repeat(first|apply wG|(apply wR;simp -dsimp[e1,bys_len,hzl])|refine aI ?_)
 by_cases hjp:j<padN b
 ·refine cT (by simp;omega) ?_
  refine WP.skip ?_
  have hzs:zB (j+1)=zB j++[0]:=by rw[zB,List.replicate_succ'];rfl
  have hbz:bys (zB (j+1))=bys (zB j)++[.v (.int .u8 0)]:=by rw[hzs,bys,bys,List.map_append];rfl
  have hp64:padN b≤64:=by unfold padN blkN;omega
  simp -dsimp
  repeat(first|apply wG|(apply wR;simp -dsimp[bys_len,hzl])|refine aI ?_)
  refine loopW.next (smP b (j+1)) (Wk.go [28] 29 500 (by decide) (by simp[slB]) (by simp[slB]) (by simp[hbz];try omega)) (padN b-(j+1)) (by omega) ⟨j+1,rfl,by omega,rfl⟩
 ·obtain rfl:j=padN b:=by omega
  refine cF (by simp;omega) ?_
  refine WP.exit ?_
  have hpe:b++zB (padN b)=jc_ b:=rfl
  have hpl:=u9_ b
  have hpn:b.length+padN b=(jc_ b).length:=by rw[← hzl,hpe]
  have hpb:(bys b).map AV.d++(bys (zB (padN b))).map AV.d=(bys (jc_ b)).map .d:=by rw[← hpe,bys,bys,bys,List.map_append,List.map_append]
  simp -dsimp[hpe,hpn]
  repeat(first|apply wG|(apply wR;simp -dsimp)|refine aI ?_)
  refine ak_ (fun q S=>∃ k:Nat,q=blkN b+1-k∧k≤blkN b+1∧S=smK b k) (blkN b+1) (S0:=smK b 0) ((Wk.freeze (k:=500) (T:=5) (sz:=1) (n:=(jc_ b).length) (ds:=bys (jc_ b)) (by simp[hpb])).trans (ae_ [] (by simp[slB,n64]) (by simp[stV]))) ⟨0,rfl,by omega,rfl⟩ ?_
  rintro _ _ ⟨k,rfl,hk,rfl⟩
  have hkk:blkN b=(b.length-1)/64:=rfl
  have hnk:n64 k=64*k:=rfl
  simp -dsimp
  repeat(first|apply wG|(apply wR;simp -dsimp[slB])|refine aI ?_)
  by_cases hkb:k≤blkN b
  ·refine cT (by simp;omega) ?_
   refine WP.skip ?_
   obtain⟨c,hc⟩:∃ c,((jc_ b).drop (64*k)).take 64=c:=⟨_,rfl⟩
   have lc:c.length=64:=by rw[← hc,List.length_take,List.length_drop];omega
   have hst:stV b k=absV b k:=by rw[stV,if_pos hkb]
   have hnx:=rb_ b k hkb
   have ec:List.take 64 (List.drop (n64 k) (bys (jc_ b)))=bys c:=by rw[← hc,bysB_take,bys_dropE,n64]
   rw[hc] at hnx
   have la:=cM_ b k
   have hbk:=nU_ (absV b k) la c lc (if k=blkN b then b.length else 64*(k+1)) (by split<;>omega) (decide (k=blkN b))
   have hS1:(stV b (k+1)).length=8:=by
    rw[stV]
    split
    ·exact cM_ _ _
    ·exact k2_ _
   rw[hnx] at hbk
   generalize hSe:stV b (k+1)=S1 at *
   rw[hst]
   clear hnx hst
   generalize absV b k=S0 at *
   have hn1:n64 (k+1)=n64 k+64:=by unfold n64;omega
   have hnl:n64 (k+1)≤(jc_ b).length:=by unfold n64;omega
   have hne:64*(k+1)=n64 (k+1):=rfl
   rw[hne] at hbk
   have w1:IntKind.i64.wrap ((n64 k:Int)+64)=(n64 (k+1):Int):=by rw[IntWalk.i64_in _ (by omega)];omega
   have w2:IntKind.u64.wrap (n64 (k+1):Int)=(n64 (k+1):Int):=by rw[IntKind.wrap_u64];omega
   have y1:(n64 k:Int)≤(n64 (k+1):Int):=by omega
   have y2:(n64 (k+1):Int)≤((jc_ b).length:Int):=by omega
   have y3:((n64 (k+1):Int)-(n64 k:Int)).toNat=64:=by omega
   have y4:n64 k≤n64 (k+1):=by omega
   have w3:IntKind.u64.wrap (b.length:Int)=(b.length:Int):=by rw[IntKind.wrap_u64];omega
   have tS:List.take 8 (u32L S0)=u32L S0:=List.take_of_length_le (by rw[u32L_len,la];decide)
   have tSm:List.take 8 ((u32L S0).map AV.d)=(u32L S0).map .d:=List.take_of_length_le (by rw[List.length_map,u32L_len,la];decide)
   have t1:List.take 8 ((u32L S1).map AV.d)=(u32L S1).map .d:=List.take_of_length_le (by rw[List.length_map,u32L_len,hS1];decide)
   by_cases hlk:k=blkN b
   ·rw[if_pos hlk,decide_eq_true hlk] at hbk
    have hd:decide ((n64 (k+1):Int)=((jc_ b).length:Int))=true:=by rw[decide_eq_true_iff];unfold n64;omega
    simp -dsimp[slB]
    generalize hN:n64 (k+1)=N2 at *
    generalize n64 k=N1 at *
    repeat(first|apply wG|(apply wR;simp -dsimp[slB,w1,w2,hd])|refine aI ?_)
    refine cT (by simp[hd]) ?_
    repeat(first|apply wG|(apply wR;simp -dsimp[slB,w1,w2,w3,u32L_len,la,tSm,tS,y1,y2,y3,y4,hnl])|refine aI ?_)
    refine af_ gI_ hbk rfl rfl (And.intro (by simp[tSm,tS];try exact ag_ _) (And.intro (by simp[slB,ec,lc]) (And.intro (by simp) (And.intro (by simp) trivial)))) ?_
    simp -dsimp
    repeat(first|apply wG|(apply wR;simp -dsimp[u32L_len,hS1,la,setL_whole,t1])|refine aI ?_)
    refine And.intro ⟨by rw[u32L_len,hS1],by rw[u32L_len,la];exact Nat.le_refl _,fun a h=>ed_ h⟩ ?_
    repeat(first|apply wG|(apply wR;simp -dsimp[u32L_len,hS1,la,setL_whole,t1,w1])|refine aI ?_)
    refine loopW.next (smK b (k+1)) (ae_ [] (by simp[slB,w1,hN]) (by simp[hSe,setL_whole,u32L_len,hS1,la])) (blkN b+1-(k+1)) (by omega) ⟨k+1,rfl,by omega,rfl⟩
   ·rw[if_neg hlk,decide_eq_false hlk] at hbk
    have hd:decide ((n64 (k+1):Int)=((jc_ b).length:Int))=false:=by rw[decide_eq_false_iff_not];unfold n64;omega
    simp -dsimp[slB]
    generalize hN:n64 (k+1)=N2 at *
    generalize n64 k=N1 at *
    repeat(first|apply wG|(apply wR;simp -dsimp[slB,w1,w2,hd])|refine aI ?_)
    refine cF (by simp[hd]) ?_
    refine WP.skip ?_
    simp -dsimp
    repeat(first|apply wG|(apply wR;simp -dsimp[slB,w1,w2,w3,u32L_len,la,tSm,tS,y1,y2,y3,y4,hnl])|refine aI ?_)
    refine af_ gI_ hbk rfl rfl (And.intro (by simp[tSm,tS];try exact ag_ _) (And.intro (by simp[slB,ec,lc]) (And.intro (by simp) (And.intro (by simp) trivial)))) ?_
    simp -dsimp
    repeat(first|apply wG|(apply wR;simp -dsimp[u32L_len,hS1,la,setL_whole,t1])|refine aI ?_)
    refine And.intro ⟨by rw[u32L_len,hS1],by rw[u32L_len,la];exact Nat.le_refl _,fun a h=>ed_ h⟩ ?_
    repeat(first|apply wG|(apply wR;simp -dsimp[u32L_len,hS1,la,setL_whole,t1,w1])|refine aI ?_)
    refine loopW.next (smK b (k+1)) (ae_ [] (by simp[slB,w1,hN]) (by simp[hSe,setL_whole,u32L_len,hS1,la])) (blkN b+1-(k+1)) (by omega) ⟨k+1,rfl,by omega,rfl⟩
  ·refine cF (by simp;omega) ?_
   refine WP.exit ?_
   have hst:stV b k=nB_ b:=by rw[stV,if_neg hkb]
   have hf:=k2_ b
   simp -dsimp[hst]
   repeat(first|apply wG|(apply wR;simp -dsimp)|refine aI ?_)
   refine ak_ (fun q S=>∃ i:Nat,q=32-i∧i≤32∧S=smT b i) 32 (S0:=smT b 0) (ae_ [] (by simp) (by simp[hst,setL_whole];try rfl)) ⟨0,rfl,by omega,rfl⟩ ?_
   rintro _ _ ⟨i,rfl,hi,rfl⟩
   simp -dsimp
   repeat(first|apply wG|(apply wR;simp -dsimp)|refine aI ?_)
   by_cases hi32:i<32
   ·refine cT (by simp;omega) ?_
    refine WP.skip ?_
    obtain⟨q,hq⟩:∃ q,i/4=q:=⟨_,rfl⟩
    obtain⟨m,hm⟩:∃ m,i%4=m:=⟨_,rfl⟩
    have k0:(i:Int).tmod 4=(m:Int):=by rw[Int.tmod_eq_emod_of_nonneg (by omega)];omega
    have k1:IntKind.i64.wrap ((i:Int)/4)=(q:Int):=by rw[IntWalk.i64_in _ (by omega)];omega
    have k2:IntKind.i64.wrap (m:Int)=(m:Int):=by rw[IntWalk.i64_in _ (by omega)]
    have k3:IntKind.i64.wrap (8*(m:Int))=8*(m:Int):=by rw[IntWalk.i64_in _ (by omega)]
    have k4:shN .u32 (8*(m:Int))=8*m:=by simp[shN,IntKind.bits];omega
    have k5:IntKind.i64.wrap ((i:Int)+1)=((i+1:Nat):Int):=by rw[IntWalk.i64_in _ (by omega)];omega
    have h2:q<8:=by omega
    have hn:=lD_ (sumF b) 32 i hi32
    have hsf:sumF b i=UInt8.ofNat ((gW (nB_ b) q>>>(8*m)).toNat):=by rw[sumF,hq,hm]
    have k6:=wz_ (gW (nB_ b) q>>>(8*m))
    rw[← hsf] at k6
    have hl:=pt_ (sumF b) 32 i hi
    generalize sumF b i=x at *
    generalize telB (sumF b) 32 i=l at *
    simp -dsimp
    repeat(first|apply wG|(apply wR;simp -dsimp[k0,k1,k2,k3,k4,hf,h2,hl,bys_len,u32L_len,ay_,uE_,k6,ua_,hi32])|refine aI ?_)
    refine loopW.next (smT b (i+1)) (ae_ [] (by simp[k5]) (by simp[← hn])) (32-(i+1)) (by omega) ⟨i+1,rfl,by omega,rfl⟩
   ·refine cF (by simp;omega) ?_
    refine WP.exit ?_
    obtain rfl:i=32:=by omega
    have hs:=si_ b
    have hl:=sumB_len b
    simp -dsimp[hs]
    repeat(first|apply wG|(apply wR;simp -dsimp[bys_len,hl,lz,bysA_take])|refine aI ?_)
    refine And.intro (fun c h=>an_ h) ?_
    refine WP.ret (ab_ ?_)
    simp -dsimp[setL_whole,bys_len,bysA_take,hl,lz]
    exact ag_ (bys (hL_ b))
end Go.Proofs.YtdjkbdhdejlakaaGreatDoor
