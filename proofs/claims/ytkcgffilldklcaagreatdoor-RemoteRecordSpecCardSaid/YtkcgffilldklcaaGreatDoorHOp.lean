/-
  Joined texts.
-/
import Derived.Test.YtkcgffilldklcaaGreatDoorHLk
import Derived.Test.YtkcgffilldklcaaGreatDoorHJz
set_option linter.all false
set_option maxRecDepth 10000
set_option maxHeartbeats 4000000
namespace Go.Proofs.YtkcgffilldklcaaGreatDoor
open Go.Xe Go.RowKit
theorem j5_ (crew:Int) (seed:By) (m:Int) (s:List By) (left sent:Int):rmD (mkR crew seed m s left sent)=.agg [.v (.int .i64 crew),slB seed,.v (.int .i64 m),.v (.int .i64 (recs s).length),slLB s,.sl 2 [] 0 false,.v (.int .i64 left),.v (.bool false),.v (.int .i64 s.length),slLB (recs s),.v (.int .i64 (recs s).length),.sl 61 (sgC (onL seed m (recs s))) (recs s).length false,.v (.int .i64 sent)]:=by
 simp only[rmD,rmC,mkR,sgD,b4_];rfl
def stR (crew:Int) (seed:By) (m:Int) (s:List By) (X:List By) (sent:Int):Rm:=⟨crew,seed,m,(recs s).length,⟨X,[],0,true⟩,s.length,recs s,(recs s).length,onL seed m (recs s),sent⟩
theorem xy_ (crew:Int) (seed:By) (m:Int) (s X:List By) (sent:Int):rmD (stR crew seed m s X sent)=.agg [.v (.int .i64 crew),slB seed,.v (.int .i64 m),.v (.int .i64 (recs s).length),slLB X,.sl 2 [] 0 false,.v (.int .i64 0),.v (.bool true),.v (.int .i64 s.length),slLB (recs s),.v (.int .i64 (recs s).length),.sl 61 (sgC (onL seed m (recs s))) (recs s).length false,.v (.int .i64 sent)]:=by
 simp only[rmD,rmC,stR,sgD,b4_];rfl
theorem te_ {crew:Int} {seed:By} {m:Int} {s X:List By} {sent:Int} (ho:okR crew seed m X (-1) 0) (hr:recs X=recs s):vR_ (stR crew seed m s X sent)=(mkR crew seed m X (-1) 0,0):=by
 have hk:=bd_.1 ho.key
 have k0:keyV seed m 0=true:=bd_.2 ⟨hk.1,hk.2.1,hk.2.2.1,hk.2.2.2.1,Int.le_refl _,by omega⟩
 have hb:dkB ⟨X,[],-1,false⟩=true:=aZ_.2 ⟨⟨ho.n1,ho.n2,Nat.zero_le _,by simp,by simp⟩,(fun _ h=>by cases h),ho.h128⟩
 unfold vR_
 exact (if_pos ⟨ho.c0,ho.c1⟩).trans ((if_pos k0).trans ((if_pos hb).trans (if_pos ho.on)))
theorem ql_ (f:Nat→Int) (c:Int) (n:Nat):fup (fup f 0 c) 1 ((n:Int)+1)=ownF c n f:=rfl
theorem tc_ {crew:Int} {seed:By} {m:Int} {s:List By} {left sent:Int} (ho:okR crew seed m s left sent) (hsd:seed.length≤1000) (h15:Fn0 Tryz.prog 15 [rmD (mkR crew seed m s left sent)] (.v (.int .i64 0)))
  (f:Nat→Int) (hf:fOk f):Fn0 Tryz.prog 6 [rmD (mkR crew seed m s left sent),fD f] (rmT (gV_ crew seed m s left sent (ownF crew (recs s).length f))):=by
 have hus:=ce_ ho.h128
 have hsm:=bn_ ho.h128 ho.n2
 have hn1:=ho.n1
 have hn2:=ho.n2
 have hkk:=bd_.1 ho.key
 have hg:fOk (ownF crew (recs s).length f):=k4_ hf (by have:=ho.c0;have:=ho.c1;simp[isI];omega) (by omega)
 have g1:=tJ_ crew (recs s).length f
 have hrf:=ql_ f crew (recs s).length
 have lG:=b4_ seed m (recs s)
 have eR:IntKind.i64.wrap (((recs s).length:Int)+1)=((recs s).length:Int)+1:=IntWalk.i64_in _ (by omega)
 have hmk:rmD (mkR crew seed m s left sent)=.agg [.v (.int .i64 crew),slB seed,.v (.int .i64 m),.v (.int .i64 (recs s).length),slLB s,.sl 2 [] 0 false,.v (.int .i64 left),.v (.bool false),.v (.int .i64 s.length),slLB (recs s),.v (.int .i64 (recs s).length),.sl 61 (sgC (onL seed m (recs s))) (recs s).length false,.v (.int .i64 sent)]:=by
  simp only[rmD,rmC,mkR,sgD,lG];rfl
 rw[hmk] at h15 ⊢
 have h54:=eG_ seed hsd m (recs s).length (ownF crew (recs s).length f) hg
 have h55:=i1_ (ownF crew (recs s).length f) hg
 have hbl:=qR_ hg
 generalize ownF crew (recs s).length f=g at *
 have hl57:=aU_ f
 have hl57g:=aU_ g
 refine ad_ (pn:=an_) ac_ Tryz.func6 rfl fun β0=>?_
 simp only[Tryz.f6]
 repeat(first|apply wG|(apply wR;simp -dsimp[fD,slB])|refine aI ?_)
 refine aa_ bC_ h15 rfl rfl (by simp[slB]) ?_
 refine sH ?_
 refine cE ?_
 refine WP.skip ?_
 simp -dsimp
 repeat(first|apply wG|(apply wR;simp -dsimp[eR,hrf])|refine aI ?_)
 by_cases hok:(numF g).2=true∧((recs s).length:Int)<m
 ·obtain⟨hn,hm⟩:=hok
  have hsr:sgnR seed m (recs s).length g=(sgc (sgQ seed m g),0):=by
   rw[sgnR,if_pos hn,if_pos ⟨ho.key,by omega⟩];rfl
  rw[hsr] at h54
  simp only at h54
  have hl61:=gf_ seed m g
  have hso:dP_ (sgQ seed m g):=⟨hg,rfl,fun d hd=>cK_ hd⟩
  have h1o:=sgc_oneD hso
  rw[Cp_,encR,if_pos hn] at h55
  simp only at h55
  have lgk:lgOk s.length (recs s) (recs s).length:=⟨hn1,hn2,Nat.le_refl _,hus.1,fun b hb=>by have:=hsm b hb;omega,by omega⟩
  have h56:=so_ lgk (encF g) (by omega)
  have hrec:gV_ crew seed m s left sent g=(if usd (recs s)+secs (encF g).length≤s.length then
    if gnr s<4294967296 then
     if 0≤left∧left<secs (encF g).length then (mkR crew seed m (stopS s (wrR s (encF g)) left.toNat) (-1) 0,380)
     else (mkR crew seed m (perf s (wrI (wrR s (encF g)))) (iN_ left (secs (encF g).length)) sent,0)
    else (zeR,390) else (zeR,2)):=by rw[gV_,if_pos hn,if_pos hm]
  rw[hrec]
  refine aa_ cI_ h54 rfl rfl (by simp[keyD,fD,slB]) ?_
  simp -dsimp
  repeat(first|apply wG|(apply wR;simp -dsimp[setL_whole,hl61])|refine aI ?_)
  refine cE ?_
  refine WP.skip ?_
  refine sH ?_
  refine aa_ fr_ h55 rfl rfl (by simp[fD]) ?_
  refine sH ?_
  refine aa_ pX_ h56 rfl rfl (by simp[logD,lgC]) ?_
  by_cases hu:usd (recs s)+secs (encF g).length≤s.length
  ·rw[if_pos hu,if_pos hu]
   have h57:=wl_ s ho.h128 hn1 hn2 left ho.l1 ho.l2 (encF g) (by omega) hu
   unfold Al_ at h57
   simp -dsimp[logD,lgC]
   repeat(first|apply wG|(apply wR;simp -dsimp[logD,lgC])|refine aI ?_)
   refine cE ?_
   refine WP.skip ?_
   refine sH ?_
   refine aa_ pW_ h57 rfl rfl (by simp[logD,lgC,dkD,dkC,wrC]) ?_
   by_cases hgn:gnr s<4294967296
   ·rw[if_pos hgn,if_pos hgn]
    by_cases hst:0≤left∧left<secs (encF g).length
    ·rw[if_pos hst,if_pos hst]
     obtain⟨ho2,hr2⟩:=kD_ (k:=left.toNat) (g:=g) ho hu hgn (by omega)
     have hX:(stopS s (wrR s (encF g)) left.toNat).length≤4096:=ho2.n2
     have hfo:=mG_ (seed:=seed) ho.on hkk.2.2.2.1 (fun b hb=>by have:=hsm b hb;omega)
     have hst:=te_ (s:=s) (sent:=sent) ho2 hr2
     generalize stopS s (wrR s (encF g)) left.toNat=X at *
     have h23:=qe_ (stR crew seed m s X sent) ⟨by have:=ho.c0;have:=ho.c1;simp[isI,stR];omega,by simp[isI,stR];omega,by simp[isI,stR];omega,⟨by simp only[stR];omega,Nat.zero_le _,by simp[isI,stR]⟩,hsd,by simp only[stR];omega,by simp only[stR,lG];omega,hfo⟩
     rw[hst,xy_,rmT] at h23
     simp only[j5_] at h23
     simp -dsimp[logD,lgC,dkD,dkC]
     repeat(first|apply wG|(apply wR;simp -dsimp[logD,lgC,dkD,dkC])|refine aI ?_)
     refine cE ?_
     refine sG ?_
     refine cU ?_
     refine sG ?_
     refine aa_ jw_ h23 rfl rfl (by simp[slB,wrC]) ?_
     refine sH ?_
     refine WP.ret (ab_ ?_)
     simp -dsimp[rmT,j5_]
    ·rw[if_neg hst,if_neg hst]
     obtain⟨ho2,hr2⟩:=kU_ ho hg hn (by rw[← hrf];simp[fup]) g1 hm hu hgn hst
     have hPl:=a9_ s (wrI (wrR s (encF g)))
     have hcl:=nc_ (onL seed m (recs s)) (by omega) (fun p hp=>(mG_ (seed:=seed) ho.on hkk.2.2.2.1 (fun b hb=>by have:=hsm b hb;omega) p hp).1)
     have hcp:=wS_ (sgC (onL seed m (recs s))) (recs s).length false
     have lC:=de_ seed m (recs s)
     have hsC:sgC (onL seed m (recs s++[encF g]))=sgC (onL seed m (recs s))++sgc (sgQ seed m g):=by
      rw[onL,List.map_append,c6_]
      simp[onL,sgC,sgc,di_ hg hn]
     have hrm:=j5_ crew seed m (perf s (wrI (wrR s (encF g)))) (iN_ left (secs (encF g).length)) sent
     rw[hr2,hPl] at hrm
     have h61:=gT_ hso
     have h1a:=dY_ hso
     rw[lG] at hcl
     rw[List.take_of_length_le (by rw[lC];exact Nat.le_refl _)] at hcp
     have eu:IntKind.i64.wrap (((recs s).length:Int)+1)=((recs s).length:Int)+1:=eR
     generalize perf s (wrI (wrR s (encF g)))=P at *
     simp -dsimp[logD,lgC,dkD,dkC]
     repeat(first|apply wG|(apply wR;simp -dsimp[logD,lgC,dkD,dkC])|refine aI ?_)
     refine cU ?_
     refine sG ?_
     refine aa_ jv_ hcl rfl rfl (by simp) ?_
     simp -dsimp
     repeat refine aI ?_
     refine aa_ pV_ hcp rfl rfl (by simp) ?_
     simp -dsimp[h61,hl61,lC]
     refine And.intro h1o ?_
     refine And.intro (by omega) ?_
     refine And.intro (by first|rfl|decide) ?_
     repeat(first|apply wG|(apply wR;simp -dsimp[h61,hl61,lC,eu])|refine aI ?_)
     refine WP.ret (aj_ (Wk.freeze (k:=73) (T:=78) (sz:=61) (n:=(recs s).length+1) (ds:=sgC (onL seed m (recs s++[encF g]))) (by simp[hsC])) ?_)
     simp -dsimp[rmT,hrm,slB,wrC]
   ·rw[if_neg hgn,if_neg hgn]
    simp -dsimp[logD,lgC,dkD,dkC]
    repeat(first|apply wG|(apply wR;simp -dsimp[logD,lgC,dkD,dkC])|refine aI ?_)
    refine cE ?_
    refine sG ?_
    refine cE ?_
    refine WP.skip ?_
    refine sH ?_
    refine WP.ret (ab_ ?_)
    simp -dsimp[rmT,rmD_ze]
  ·rw[if_neg hu,if_neg hu]
   simp -dsimp[logD,lgC]
   repeat(first|apply wG|(apply wR;simp -dsimp[logD,lgC])|refine aI ?_)
   refine cU ?_
   refine sG ?_
   refine WP.ret (ab_ ?_)
   simp -dsimp[rmT,rmD_ze]
 ·have hsr:(sgnR seed m (recs s).length g).1=fcs f0 0 57++zsC∧(sgnR seed m (recs s).length g).2≠0∧gV_ crew seed m s left sent g=(zeR,(sgnR seed m (recs s).length g).2):=by
   unfold sgnR gV_
   by_cases hn:(numF g).2=true
   ·rw[if_pos hn,if_neg (by rintro⟨_,h⟩;exact hok ⟨hn,by omega⟩),if_pos hn,if_neg (fun h=>hok ⟨hn,h⟩)]
    exact⟨rfl,by decide,rfl⟩
   ·rw[if_neg hn,if_neg hn]
    exact⟨rfl,by decide,rfl⟩
  obtain⟨hs1,hs2,hs3⟩:=hsr
  rw[hs3]
  rw[hs1] at h54
  have hzo:dP_ (f0,zsC):=⟨r8_,rfl,by decide⟩
  have hz1:=sgc_oneD hzo
  have hz61:=bp_ hzo
  simp only[sgc] at hz1 hz61
  generalize fcs f0 0 57++zsC=Z at *
  generalize (sgnR seed m (recs s).length g).2=z at *
  refine aa_ cI_ h54 rfl rfl (by simp[keyD,fD,slB]) ?_
  simp -dsimp
  repeat(first|apply wG|(apply wR;simp -dsimp[setL_whole])|refine aI ?_)
  refine cT (by simp[hs2]) ?_
  refine sG ?_
  refine WP.ret (ab_ ?_)
  simp -dsimp[rmT,rmD_ze]
theorem hP_ (r:Rm) (h:rmOk r) (f:Nat→Int) (hf:fOk f):Fn0 Tryz.prog 6 [rmD r,fD f] (rmT (oQ_ r f)):=by
 have h15:=c8_ r h
 unfold oQ_
 cases hv:rmB r with
 | false =>
  have hck:ckR r=440:=by rw[ckR,hv];rfl
  rw[hck] at h15
  rw[if_neg (by decide)]
  refine ad_ (pn:=an_) ac_ Tryz.func6 rfl fun β0=>?_
  simp only[Tryz.f6]
  repeat(first|apply wG|(apply wR;simp -dsimp[rmD,rmC,fD])|refine aI ?_)
  refine aa_ bC_ h15 rfl rfl (by simp[rmD,rmC]) ?_
  refine sH ?_
  refine cU ?_
  refine sG ?_
  refine WP.ret (ab_ ?_)
  simp -dsimp[rmT,rmD_ze]
 | true =>
  have hck:ckR r=0:=by rw[ckR,hv];rfl
  rw[hck] at h15
  rw[if_pos rfl]
  have hd0:dkB r.dk=true:=by
   have:=hv
   simp only[rmB,Bool.and_eq_true] at this
   exact this.2.2.1.1
  have hdd:=aZ_.1 hd0
  have hsm:=bn_ hdd.2.2 hdd.1.2.1
  obtain⟨ho,hr⟩:=p3_ (fun p hp=>⟨(h.fo p hp).1.1,(h.fo p hp).2⟩) (fun b hb=>by have:=hsm b hb;omega) hv
  have hres:=tc_ ho h.sd (by rw[← hr];exact h15) f hf
  rw[← hr] at hres
  exact hres
end Go.Proofs.YtkcgffilldklcaaGreatDoor
set_option maxRecDepth 10000
namespace Go.Proofs.YtkcgffilldklcaaGreatDoor
open Go.Xe Go.RowKit
def z7_ (r:Rm):List Sg×Int:=if rmB r=true then (r.fs.drop r.sent.toNat,0) else ([],440)
def Aq_ (r:Rm) (n:Int):Rm×Int:=if rmB r=true then if r.sent≤n∧n≤r.fs.length then ({ r with sent:=n },0) else (zeR,440) else (zeR,440)
theorem vQ_ {r:Rm} (h:rmB r=true):0≤r.sent∧r.sent≤r.fs.length:=by
 simp only[rmB,Bool.and_eq_true,decide_eq_true_eq] at h
 exact⟨h.1.2.2.2.1,h.1.2.2.2.2⟩
set_option maxHeartbeats 2000000 in
theorem qg_ (r:Rm) (h:rmOk r) (hn:r.fs.length≤1000000):Fn0 Tryz.prog 13 [rmD r] (.tup [sgD (z7_ r).1 false,.v (.int .i64 (z7_ r).2)]):=by
 have h15:=c8_ r h
 unfold z7_
 unfold ckR at h15
 cases hv:rmB r with
 | true =>
  rw[hv,if_pos rfl] at h15
  rw[if_pos rfl]
  obtain⟨s0,s1⟩:=vQ_ hv
  obtain⟨k,hk⟩:∃ k:Nat,r.sent=k:=⟨r.sent.toNat,by omega⟩
  rw[hk,Int.toNat_natCast]
  have hkl:k≤r.fs.length:=by omega
  have hd:=(vI_ (fun q hq=>(h.fo q hq).1) hkl).2
  have lC:=sgC_len (l:=r.fs) fun q hq=>(h.fo q hq).1
  have hcl:=nc_ (r.fs.drop k) (by rw[List.length_drop];omega) (fun p hp=>(h.fo p (List.mem_of_mem_drop hp)).1)
  rw[List.length_drop] at hcl
  have lD:=sgC_len (l:=r.fs.drop k) fun q hq=>(h.fo q (List.mem_of_mem_drop hq)).1
  rw[List.length_drop] at lD
  have ht:List.take ((r.fs.length-k)*61) (sgC (r.fs.drop k))=sgC (r.fs.drop k):=List.take_of_length_le (by omega)
  refine ad_ (pn:=an_) ac_ Tryz.func13 rfl fun β0=>?_
  simp only[Tryz.f13]
  repeat(first|apply wG|(apply wR;simp -dsimp[rmD,rmC,hk])|refine aI ?_)
  refine aa_ bC_ h15 rfl rfl (by simp[rmD,rmC,hk]) ?_
  refine sH ?_
  refine cE ?_
  refine WP.skip ?_
  simp -dsimp
  repeat(first|apply wG|(apply wR;simp -dsimp[hd,ht,hkl])|refine aI ?_)
  refine aa_ jv_ hcl rfl rfl (by simp[hd,ht]) ?_
  refine sH ?_
  refine WP.ret (ab_ ?_)
  simp -dsimp
 | false =>
  rw[hv,if_neg (by decide)] at h15
  rw[if_neg (by decide)]
  refine ad_ (pn:=an_) ac_ Tryz.func13 rfl fun β0=>?_
  simp only[Tryz.f13]
  repeat(first|apply wG|(apply wR;simp -dsimp[rmD,rmC])|refine aI ?_)
  refine aa_ bC_ h15 rfl rfl (by simp[rmD,rmC]) ?_
  refine sH ?_
  refine cU ?_
  refine sG ?_
  refine WP.ret (ab_ ?_)
  simp -dsimp[sgC]
set_option maxHeartbeats 2000000 in
theorem qf_ (r:Rm) (h:rmOk r) (n:Int):Fn0 Tryz.prog 12 [rmD r,.v (.int .i64 n)] (rmT (Aq_ r n)):=by
 have h15:=c8_ r h
 unfold Aq_
 unfold ckR at h15
 cases hv:rmB r with
 | true =>
  rw[hv,if_pos rfl] at h15
  rw[if_pos rfl]
  refine ad_ (pn:=an_) ac_ Tryz.func12 rfl fun β0=>?_
  simp only[Tryz.f12]
  repeat(first|apply wG|(apply wR;simp -dsimp[rmD,rmC])|refine aI ?_)
  refine aa_ bC_ h15 rfl rfl (by simp[rmD,rmC]) ?_
  refine sH ?_
  refine cE ?_
  refine WP.skip ?_
  refine sH ?_
  by_cases hc:r.sent≤n∧n≤r.fs.length
  ·rw[if_pos hc]
   refine cF (by simp;omega) ?_
   refine WP.skip ?_
   refine sH ?_
   refine WP.ret (ab_ ?_)
   simp -dsimp[rmT,rmD,rmC]
  ·rw[if_neg hc]
   refine cT (by simp;omega) ?_
   refine sG ?_
   refine WP.ret (ab_ ?_)
   simp -dsimp[rmT,rmD_ze]
 | false =>
  rw[hv,if_neg (by decide)] at h15
  rw[if_neg (by decide)]
  refine ad_ (pn:=an_) ac_ Tryz.func12 rfl fun β0=>?_
  simp only[Tryz.f12]
  repeat(first|apply wG|(apply wR;simp -dsimp[rmD,rmC])|refine aI ?_)
  refine aa_ bC_ h15 rfl rfl (by simp[rmD,rmC]) ?_
  refine sH ?_
  refine cU ?_
  refine sG ?_
  refine WP.ret (ab_ ?_)
  simp -dsimp[rmT,rmD_ze]
end Go.Proofs.YtkcgffilldklcaaGreatDoor
set_option maxRecDepth 10000
namespace Go.Proofs.YtkcgffilldklcaaGreatDoor
open Go.Xe Go.RowKit
theorem rx_ (seed:By) (m u:Int):Fn0 Tryz.prog 30 [keyD seed m u,keyD seed m u] (.v (.bool true)):=by
 refine ad_ (pn:=an_) ac_ Tryz.func30 rfl fun β0=>?_
 simp only[Tryz.f30]
 repeat(first|apply wG|(apply wR;simp -dsimp[keyD,slB])|refine aI ?_)
 refine WP.ret (ab_ ?_)
 simp -dsimp
abbrev srS (l:List By) (i:Nat):St:=mkS 28 [(0,.d (slLB l)),(1,.d (slLB l)),(5,.d (.v (.int .i64 i)))] []
set_option maxHeartbeats 1000000 in
theorem io_ (l:List By) (hl:l.length≤1000000000000):Fn0 Tryz.prog 78 [slLB l,slLB l] (.v (.bool true)):=by
 have la:=aI_ l
 refine ad_ (pn:=an_) ac_ Tryz.func78 rfl fun β0=>?_
 simp only[Tryz.f78]
 refine sG ?_
 refine cE ?_
 refine WP.skip ?_
 refine sH ?_
 refine ai_ (fun q S=>∃ i:Nat,q=l.length-i∧i≤l.length∧S=srS l i) l.length (S0:=srS l 0) (ae_ [] (by simp) (by simp)) ⟨0,rfl,by omega,rfl⟩ ?_
 rintro _ _ ⟨i,rfl,hi,rfl⟩
 refine sH ?_
 by_cases hin:i<l.length
 ·have e1:IntKind.i64.wrap ((i:Int)+1)=((i+1:Nat):Int):=by rw[IntWalk.i64_in _ (by omega)];omega
  refine cT (by simp;omega) ?_
  refine WP.skip ?_
  simp -dsimp
  repeat(first|apply wG|(apply wR;simp -dsimp[as_,la,hin])|refine aI ?_)
  refine cE ?_
  refine WP.skip ?_
  refine sH ?_
  refine loopW.next (srS l (i+1)) (ae_ [] (by simp[e1]) (by simp)) (l.length-(i+1)) (by omega) ⟨i+1,rfl,by omega,rfl⟩
 ·obtain rfl:i=l.length:=by omega
  refine cE ?_
  refine WP.exit ?_
  refine sH ?_
  refine WP.ret (ab_ ?_)
  simp -dsimp
theorem rw_ (M:Int) (l:List By) (Y:Int) (hl:l.length≤1000000000000):Fn0 Tryz.prog 32 [logD M l Y,logD M l Y] (.v (.bool true)):=by
 have h67:=io_ l hl
 refine ad_ (pn:=an_) ac_ Tryz.func32 rfl fun β0=>?_
 simp only[Tryz.f32]
 repeat(first|apply wG|(apply wR;simp -dsimp[logD,lgC])|refine aI ?_)
 refine af_ fi_ (fun _=>h67) rfl (fun _=>rfl) (fun _=>by simp) ?_
 refine sH ?_
 refine WP.ret (ab_ ?_)
 simp -dsimp
abbrev EF_ (s:List By) (left:Int) (st:Bool):Bxs:=[(2,.cells 28 ((dkC ⟨s,[],left,st⟩).map .d)),(3,.cells 28 ((dkC ⟨s,[],left,st⟩).map .d))]
abbrev sdkS (s:List By) (left:Int) (st:Bool) (i:Nat):St:=mkS 94 [(2,.ptr 2 0),(3,.ptr 3 0),(5,.d (.v (.int .i64 i)))] (EF_ s left st)
set_option maxRecDepth 10000 in
set_option maxHeartbeats 1000000 in
theorem s3_ (s:List By) (left:Int) (st:Bool) (hl:s.length≤1000000000000):Fn0 Tryz.prog 31 [dkD ⟨s,[],left,st⟩,dkD ⟨s,[],left,st⟩] (.v (.bool true)):=by
 have la:=aI_ s
 refine ad_ (pn:=an_) ac_ Tryz.func31 rfl fun β0=>?_
 simp only[Tryz.f31]
 repeat(first|apply wG|(apply wR;simp -dsimp[dkD,dkC])|refine aI ?_)
 refine cE ?_
 refine WP.skip ?_
 refine sH ?_
 refine ai_ (fun q S=>∃ i:Nat,q=s.length-i∧i≤s.length∧S=sdkS s left st i) s.length (S0:=sdkS s left st 0) (ae_ [] (by simp) (by simp[dkC])) ⟨0,rfl,by omega,rfl⟩ ?_
 rintro _ _ ⟨i,rfl,hi,rfl⟩
 simp -dsimp[dkC]
 repeat(first|apply wG|(apply wR;simp -dsimp[dkC])|refine aI ?_)
 by_cases hin:i<s.length
 ·have e1:IntKind.i64.wrap ((i:Int)+1)=((i+1:Nat):Int):=by rw[IntWalk.i64_in _ (by omega)];omega
  refine cT (by simp;omega) ?_
  refine WP.skip ?_
  simp -dsimp
  repeat(first|apply wG|(apply wR;simp -dsimp[as_,la,hin,dkC])|refine aI ?_)
  refine cE ?_
  refine WP.skip ?_
  refine sH ?_
  refine loopW.next (sdkS s left st (i+1)) (ae_ [] (by simp[e1]) (by simp[dkC])) (s.length-(i+1)) (by omega) ⟨i+1,rfl,by omega,rfl⟩
 ·obtain rfl:i=s.length:=by omega
  refine cE ?_
  refine WP.exit ?_
  refine sH ?_
  refine ai_ (fun q S=>S=mkS 94 [(2,.ptr 2 0),(3,.ptr 3 0),(6,.d (.v (.int .i64 0)))] (EF_ s left st)) 0 (S0:=mkS 94 [(2,.ptr 2 0),(3,.ptr 3 0),(6,.d (.v (.int .i64 0)))] (EF_ s left st)) (ae_ [] (by simp) (by simp[dkC])) rfl ?_
  rintro _ _ rfl
  simp -dsimp[dkC]
  repeat(first|apply wG|(apply wR;simp -dsimp[dkC])|refine aI ?_)
  refine cE ?_
  refine WP.exit ?_
  refine sH ?_
  refine WP.ret (ab_ ?_)
  simp -dsimp
abbrev ssS (l:List Sg) (i:Nat):St:=mkS 27 [(0,.d (sgD l false)),(1,.d (sgD l false)),(5,.d (.v (.int .i64 i)))] []
set_option maxRecDepth 10000 in
set_option maxHeartbeats 1000000 in
theorem rt_ (l:List Sg) (hl:l.length≤1000000000000) (ho:∀ p∈l,dP_ p∧sgT p):Fn0 Tryz.prog 33 [sgD l false,sgD l false] (.v (.bool true)):=by
 have la:=sgC_len (l:=l) fun p h=>(ho p h).1
 refine ad_ (pn:=an_) ac_ Tryz.func33 rfl fun β0=>?_
 simp only[Tryz.f33]
 refine sG ?_
 refine cE ?_
 refine WP.skip ?_
 refine sH ?_
 refine ai_ (fun q S=>∃ i:Nat,q=l.length-i∧i≤l.length∧S=ssS l i) l.length (S0:=ssS l 0) (ae_ [] (by simp) (by simp)) ⟨0,rfl,by omega,rfl⟩ ?_
 rintro _ _ ⟨i,rfl,hi,rfl⟩
 refine sH ?_
 by_cases hin:i<l.length
 ·have e1:IntKind.i64.wrap ((i:Int)+1)=((i+1:Nat):Int):=by rw[IntWalk.i64_in _ (by omega)];omega
  obtain⟨o1,t1⟩:=ho _ (List.getElem_mem hin)
  obtain⟨r,k28,hr⟩:=rv_ l[i] l[i] o1 o1 t1 t1
  rw[hr rfl] at k28
  have aa:=j1_ hin fun p h=>(ho p h).1
  generalize l[i]=x at *
  have tx:=gT_ o1
  have lx:=bp_ o1
  have tt:=yu_ o1
  have ox:=dY_ o1
  refine cT (by simp;omega) ?_
  refine WP.skip ?_
  simp -dsimp
  repeat(first|apply wG|(apply wR;simp -dsimp[aa,la,hin,tx,lx,tt])|refine aI ?_)
  refine ao_ jj_ k28 rfl rfl (And.intro (by simp[sgV,tx,tt]) (And.intro (by simp[sgV,tx,tt]) trivial)) ?_
  simp -dsimp
  repeat refine aI ?_
  refine cE ?_
  refine WP.skip ?_
  refine sH ?_
  refine loopW.next (ssS l (i+1)) (ae_ [] (by simp[e1]) (by simp)) (l.length-(i+1)) (by omega) ⟨i+1,rfl,by omega,rfl⟩
 ·obtain rfl:i=l.length:=by omega
  refine cE ?_
  refine WP.exit ?_
  refine sH ?_
  refine WP.ret (ab_ ?_)
  simp -dsimp
end Go.Proofs.YtkcgffilldklcaaGreatDoor
