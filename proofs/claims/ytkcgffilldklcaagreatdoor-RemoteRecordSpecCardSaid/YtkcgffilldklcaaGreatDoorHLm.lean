/-
  Joined texts.
-/
import Derived.Test.YtkcgffilldklcaaGreatDoorHOp
import Derived.Test.YtkcgffilldklcaaGreatDoorHOg
import Derived.Test.YtkcgffilldklcaaGreatDoorHTr
import Derived.Test.YtkcgffilldklcaaGreatDoorHTo
import Derived.Test.YtkcgffilldklcaaGreatDoorHTu
import Derived.Test.YtkcgffilldklcaaGreatDoorHFu
import Derived.Test.YtkcgffilldklcaaGreatDoorHOb
import Derived.Test.YtkcgffilldklcaaGreatDoorHLk
import Derived.Test.YtkcgffilldklcaaGreatDoorH4
set_option linter.all false
namespace Go.Proofs.YtkcgffilldklcaaGreatDoor
open Go.Xe Go.RowKit
set_option maxRecDepth 10000 in
set_option maxHeartbeats 1000000 in
theorem mg_ (r:Rm) (h:rmOk r) (hp:r.dk.p=[]):Fn0 Tryz.prog 8 [rmD r,rmD r] (.v (.bool true)):=by
 have h44:=rx_ r.seed r.many r.used
 have h45:=s3_ r.dk.s r.dk.left r.dk.st h.dk.ns
 have h26:=rw_ r.lm r.lr r.ls h.lr
 have h25:=rt_ r.fs h.fl h.fo
 refine ad_ (pn:=an_) ac_ Tryz.func8 rfl fun β0=>?_
 simp only[Tryz.f8]
 repeat(first|apply wG|(apply wR;simp -dsimp[rmD,rmC,hp])|refine aI ?_)
 refine af_ pR_ (fun _=>h44) rfl (fun _=>rfl) (fun _=>by simp[keyD,slB]) ?_
 refine sH ?_
 refine af_ pQ_ (fun _=>h45) rfl (fun _=>rfl) (fun _=>by simp[dkD,dkC]) ?_
 refine sH ?_
 refine af_ jt_ (fun _=>h26) rfl (fun _=>rfl) (fun _=>by simp[logD,lgC]) ?_
 refine sH ?_
 refine cE ?_
 refine WP.skip ?_
 refine sH ?_
 refine aa_ pP_ h25 rfl rfl (by simp) ?_
 refine sH ?_
 refine WP.ret (ab_ ?_)
 simp -dsimp
end Go.Proofs.YtkcgffilldklcaaGreatDoor
namespace Go.Proofs.YtkcgffilldklcaaGreatDoor
open Go.Xe Go.RowKit
theorem tX_ (m k:Int):Fun Tryz.prog 10 [.d (.v (.int .i64 2)),.agg [.row 1000,.d (.v (.int .i64 m)),.d (.v (.int .i64 0))],.d (.v (.int .i64 k))] [(1000,.row 5 1 1 [.d (.v (.int .u8 1))])] (.d (rmT (tY_ 2 [1] m 0 k))) [] fun _=>False:=by
 have h12:=kN_ 2 [1] (by decide) m 0 k
 have h12':Fun Tryz.prog 10 [.d (.v (.int .i64 2)),.agg [.d (slB [1]),.d (.v (.int .i64 m)),.d (.v (.int .i64 0))],.d (.v (.int .i64 k))] [] (.d (rmT (tY_ 2 [1] m 0 k))) [] fun _=>False :=
  rb_ h12 (And.intro (.refl _) (And.intro (al_ [slB [1],.v (.int .i64 m),.v (.int .i64 0)]) (And.intro (.refl _) trivial)))
 exact bm_ 1000 (T:=5) (cs:=bys [1]) h12' rfl rfl trivial
set_option maxRecDepth 10000 in
theorem vD_ (m k:Int):Fn0 Tryz.prog 9 [.v (.int .i64 m),.v (.int .i64 k)] (rmT (tY_ 2 [1] m 0 k)):=by
 have h12:=kN_ 2 [1] (by decide) m 0 k
 refine ad_ (pn:=an_) ac_ Tryz.func9 rfl fun β0=>?_
 simp only[Tryz.f9]
 refine sG ?_
 refine vcStop.call jA_ (tX_ m k) (rl [(1000,6)]) rfl rfl (by simp[BoxLeq]) aGq (fun _ h=>h.elim) (fun ⟨_,h⟩=>h.elim) (fun ⟨_,h⟩=>h.elim) (by simp[BoxLeq]) ?_
 simp -dsimp[rmT,rmD,rmC]
 refine sG ?_
 refine WP.ret (ab_ ?_)
 simp -dsimp[rmT,rmD,rmC]
end Go.Proofs.YtkcgffilldklcaaGreatDoor
namespace Go.Proofs.YtkcgffilldklcaaGreatDoor
open Go.Xe Go.RowKit
theorem iI_ {crew:Int} {seed:By} {m:Int} {s:List By} {left sent:Int} (h:okR crew seed m s left sent) (hsd:seed.length≤1000):rmOk (mkR crew seed m s left sent):=by
 have hkk:=bd_.1 h.key
 have hus:=ce_ h.h128
 have hsm:=bn_ h.h128 h.n2
 have hn2:=h.n2
 have c0:=h.c0
 have c1:=h.c1
 have l1:=h.l1
 have l2:=h.l2
 have lG:=b4_ seed m (recs s)
 exact⟨by simp[isI,mkR];omega,by simp[isI,mkR];omega,by simp[isI,mkR];omega,⟨by simp only[mkR];omega,Nat.zero_le _,by simp[isI,mkR];omega⟩,hsd,by simp only[mkR];omega,by simp only[mkR,lG];omega,mG_ (seed:=seed) h.on hkk.2.2.2.1 (fun b hb=>by have:=hsm b hb;omega)⟩
theorem iH_ {crew:Int} {seed:By} {m:Int} {s:List By} {left sent:Int} (h:okR crew seed m s left sent):rmB (mkR crew seed m s left sent)=true :=
 wg_ h fun b hb=>by have:=bn_ h.h128 h.n2 b hb;omega
def q0:Rm:=mkR 2 [1] 1 (zeS 2) (-1) 0
def qF:Nat→Int:=ownF 2 0 (shF 0 9 5)
def qS:List By:=perf (zeS 2) (wrI (wrR (zeS 2) (encF qF)))
def q1:Rm:=mkR 2 [1] 1 qS (-1) 0
def q2:Rm:=mkR 2 [1] 1 qS (-1) 1
theorem yK_:(numF qF).2=true:=by kernel_rfl
theorem AY_:(numF (ownF 2 1 (shF 0 9 6))).2=true:=by kernel_rfl
theorem AZ_:(numF (ownF 2 0 f0)).2=false:=by kernel_rfl
theorem A0_:secs (encF qF).length=1:=by decide +kernel
theorem A1_:gnr (zeS 2)=1:=by decide +kernel
theorem yM_:fOk qF:=k4_ (zf_ _ _ _ (by decide) (by decide) (by decide) (by decide) (by decide) (by decide)) (by unfold isI;decide) (by decide)
theorem rN_:okR 2 [1] 1 (zeS 2) (-1) 0:=zd_ (by decide) (by decide) (by decide) (by decide) (by decide)
theorem oU_:okR 2 [1] 1 qS (-1) 0∧recs qS=[encF qF]:=by
 have h:=kU_ (g:=qF) rN_ yM_ yK_ rfl (by rw[bJ_];rfl) (by rw[bJ_];decide) (by rw[bJ_,A0_];decide) (by rw[A1_];decide) (fun h=>absurd h.1 (by decide))
 rw[bJ_] at h
 exact h
theorem yN_:okR 2 [1] 1 qS (-1) 1:=by
 obtain⟨h,e⟩:=oU_
 exact⟨h.c0,h.c1,h.key,h.n1,h.n2,h.l1,h.l2,h.h128,h.on,by decide,by rw[e];decide⟩
theorem EK_:tY_ 2 [1] 1 0 2=(q0,0):=by
 rw[tY_,if_pos (by decide),if_pos (by decide),if_pos (by decide)];rfl
theorem yL_:tY_ 32 [1] 1 0 9=(zeR,440):=by rw[tY_,if_neg (by decide)]
theorem EJ_:oQ_ q0 (shF 0 9 5)=(q1,0):=by
 rw[oQ_,q0,if_pos (iH_ rN_)]
 show gV_ 2 [1] 1 (zeS 2) (-1) 0 (ownF 2 (recs (zeS 2)).length (shF 0 9 5))=_
 rw[bJ_]
 show gV_ 2 [1] 1 (zeS 2) (-1) 0 qF=_
 rw[gV_,if_pos yK_,if_pos (by rw[bJ_];decide),if_pos (by rw[bJ_,A0_];decide),if_pos (by rw[A1_];decide),if_neg (fun h=>absurd h.1 (by decide))]
 rfl
theorem AW_:oQ_ q1 (shF 0 9 6)=(zeR,40):=by
 rw[oQ_,q1,if_pos (iH_ oU_.1)]
 show gV_ 2 [1] 1 qS (-1) 0 (ownF 2 (recs qS).length (shF 0 9 6))=_
 rw[oU_.2]
 show gV_ 2 [1] 1 qS (-1) 0 (ownF 2 1 (shF 0 9 6))=_
 rw[gV_,if_pos AY_,oU_.2,if_neg (by decide)]
theorem AX_:oQ_ q0 f0=(zeR,120):=by
 rw[oQ_,q0,if_pos (iH_ rN_)]
 show gV_ 2 [1] 1 (zeS 2) (-1) 0 (ownF 2 (recs (zeS 2)).length f0)=_
 rw[bJ_]
 show gV_ 2 [1] 1 (zeS 2) (-1) 0 (ownF 2 0 f0)=_
 rw[gV_,if_neg (by rw[AZ_];decide)]
theorem A7_:rmB q0=true:=iH_ rN_
theorem xD_:rmB q1=true:=iH_ oU_.1
theorem A6_:rmB q2=true:=iH_ yN_
theorem EN_:q0.fs=[]:=by
 show onL [1] 1 (recs (zeS 2))=_
 rw[bJ_];rfl
theorem tA_:q1.fs=[sgQ [1] 1 qF]:=by
 show onL [1] 1 (recs qS)=_
 rw[oU_.2,onL,List.map_cons,List.map_nil,di_ yM_ yK_]
theorem A3_:Aq_ q0 1=(zeR,440):=by
 rw[Aq_,if_pos A7_,if_neg]
 rw[EN_];decide
theorem A2_:Aq_ q1 1=(q2,0):=by
 rw[Aq_,if_pos xD_,if_pos]
 ·rfl
 ·rw[tA_];decide
theorem A5_:z7_ q1=([sgQ [1] 1 qF],0):=by
 rw[z7_,if_pos xD_,tA_];rfl
theorem A4_:z7_ q2=([],0):=by
 have:q2.fs=[sgQ [1] 1 qF]:=tA_
 rw[z7_,if_pos A6_,this];rfl
theorem AU_ {crew:Int} {seed:By} {m:Int} {s:List By} {left sent:Int} (ho:okR crew seed m s left sent):vR_ (mkR crew seed m s left sent)=(mkR crew seed m s (-1) 0,0):=by
 have hk:=bd_.1 ho.key
 have k0:keyV seed m 0=true:=bd_.2 ⟨hk.1,hk.2.1,hk.2.2.1,hk.2.2.2.1,Int.le_refl _,by omega⟩
 have hb:dkB ⟨s,[],-1,false⟩=true:=aZ_.2 ⟨⟨ho.n1,ho.n2,Nat.zero_le _,by simp,by simp⟩,(fun _ h=>by cases h),ho.h128⟩
 unfold vR_
 exact (if_pos ⟨ho.c0,ho.c1⟩).trans ((if_pos k0).trans ((if_pos hb).trans (if_pos ho.on)))
theorem EI_:vR_ q2=(q1,0):=AU_ yN_
theorem EM_:ckR q0=0:=by rw[ckR,q0,iH_ rN_];rfl
theorem EL_:ckR zeR=440:=by
 have:rmB zeR=false:=by simp[rmB,zeR,keyV]
 rw[ckR,this];rfl
end Go.Proofs.YtkcgffilldklcaaGreatDoor
set_option maxRecDepth 10000
namespace Go.Proofs.YtkcgffilldklcaaGreatDoor
open Go.Xe Go.RowKit
theorem tl_ (seed:By) (hs:seed.length≤1000) (m u:Int):Fn0 Tryz.prog 83 [keyD seed m u] (.tup [dD (oW_ seed m u).1,.v (.int .i64 (oW_ seed m u).2)]):=by
 have h51:=du_ seed m u
 unfold oW_
 refine ad_ (pn:=an_) ac_ Tryz.func83 rfl fun β0=>?_
 simp only[Tryz.f83]
 repeat(first|apply wG|(apply wR;simp -dsimp[keyD,slB])|refine aI ?_)
 refine aa_ dG_ h51 rfl rfl (by simp[keyD,slB]) ?_
 refine sH ?_
 cases hk:keyV seed m u with
 | true =>
  rw[if_pos rfl]
  have hkk:=bd_.1 hk
  obtain⟨M,rfl⟩:∃ M:Nat,m=M:=⟨m.toNat,by omega⟩
  rw[Int.toNat_natCast]
  have h85:=j9_ fB_ seed hs M (by omega) u
  have lp:=bv_ seed M
  have h84:=ew_ fB_ (pubsB seed M) (ey_ seed M) (by omega) (by omega)
  have lT:(treeB (pubsB seed M)).length=32:=aP_ _
  have ld:=ah_ (treeB (pubsB seed M))
  refine cF (by simp[hk]) ?_
  refine WP.skip ?_
  refine sH ?_
  refine aa_ ht_ h85 rfl rfl (by simp[keyD,slB]) ?_
  refine sH ?_
  refine aa_ bU_ h84 rfl rfl (by simp[slG]) ?_
  generalize treeB (pubsB seed M)=r at *
  simp -dsimp[dD]
  refine And.intro ⟨lT,fun a h=>ap_ h⟩ ?_
  refine sG ?_
  refine WP.ret (ab_ ?_)
  simp -dsimp[setL_whole,ah_,lT,aG_]
  exact sw_ _ _
 | false =>
  rw[if_neg (by decide)]
  refine cT (by simp[hk]) ?_
  refine sG ?_
  refine WP.ret (ab_ ?_)
  simp -dsimp
  exact sw_ (bys z32) _
def onR (crew:Int) (seed:By) (m:Int) (R:List By):D:=if onB crew m 0 R=true then .tup [sgD (onL seed m R) false,.v (.bool true)] else .tup [sgD [] false,.v (.bool false)]
abbrev onRS (crew:Int) (seed:By) (m u M:Int) (R:List By) (Y:Int) (i:Nat):St :=
 mkS 58 [(0,.d (.v (.int .i64 crew))),(4,.ptr 4 0),(5,.ptr 5 0),(8,.row 500),(9,.d (.v (.int .i64 i)))]
  [(4,.cells 24 [.d (slB seed),.d (.v (.int .i64 m)),.d (.v (.int .i64 u))]),(5,.cells 30 ((lgC M R Y).map .d)),(500,.row 78 61 i ((sgC (onL seed m (R.take i))).map .d))]
theorem xF_ {crew m:Int} {l:List By} {j:Nat} (hj:j<l.length) (h:onK crew m j l[j]=false):onB crew m 0 l=false:=by
 rw[Bool.eq_false_iff]
 intro h2
 have:=iC_ h2 hj
 rw[Nat.zero_add,h] at this
 cases this
theorem zL_ {b:By} (hb:b.length≤1000000000000) (h:(decF b).2=0):(numF (decF b).1).2=true:=by
 rcases decF_val hb with⟨_,he⟩|⟨hne,_⟩
 ·by_cases hv:(numF (decF b).1).2=true
  ·exact hv
  ·rw[x2_ hv] at he
   have:=congrArg Prod.snd he
   simp at this
 ·exact absurd h hne
set_option maxHeartbeats 4000000 in
theorem qi_ (crew:Int) (seed:By) (hs:seed.length≤1000) (m u:Int) (M:Int) (R:List By) (Y:Int) (hk:keyV seed m u=true) (hR:R.length≤1000000) (hb:∀ b∈R,b.length≤10000) :
  Fn0 Tryz.prog 66 [.v (.int .i64 crew),keyD seed m u,logD M R Y] (onR crew seed m R):=by
 obtain⟨k1,k2,k3,k4,k5,k6⟩:=bd_.1 hk
 have lll:=aI_ R
 refine ad_ (pn:=an_) ac_ Tryz.func66 rfl fun β0=>?_
 simp only[Tryz.f66]
 repeat(first|apply wG|(apply wR;simp -dsimp[logD,lgC,keyD,slB])|refine aI ?_)
 refine ai_ (fun q S=>∃ i:Nat,q=R.length-i∧i≤R.length∧onB crew m 0 (R.take i)=true∧S=onRS crew seed m u M R Y i) R.length (S0:=onRS crew seed m u M R Y 0) (Wk.go [] 13 500 (by decide) (by simp) (by simp) (by simp[slB,lgC,onL,sgC])) ⟨0,rfl,by omega,rfl,rfl⟩ ?_
 rintro _ _ ⟨i,rfl,hi,hon,rfl⟩
 simp -dsimp[lgC,slB]
 repeat(first|apply wG|(apply wR;simp -dsimp[lgC])|refine aI ?_)
 by_cases hin:i<R.length
 ·have e1:IntKind.i64.wrap ((i:Int)+1)=(i:Int)+1:=IntWalk.i64_in _ (by omega)
  have hbi:=hb _ (List.getElem_mem hin)
  have hdec:=mu_ R[i] hbi
  have hdo:=lB_ (show R[i].length≤1000000000000 by omega)
  rw[m9_,fD] at hdec
  have hl57:=aU_ (decF R[i]).1
  have hsn:=lc_ seed m R hin
  have hgd:R.getD i []=R[i]:=by rw[List.getD_eq_getElem?_getD,List.getElem?_eq_getElem hin];rfl
  have ht:R.take (i+1)=R.take i++[R[i]]:=by rw[List.take_add_one,List.getElem?_eq_getElem hin];rfl
  have lti:(R.take i).length=i:=by rw[List.length_take];omega
  refine cT (by simp;omega) ?_
  refine WP.skip ?_
  simp -dsimp
  repeat(first|apply wG|(apply wR;simp -dsimp[as_,lll,hin,lgC,slB])|refine aI ?_)
  refine aa_ n0_ hdec rfl rfl (by simp[slB]) ?_
  simp -dsimp
  repeat(first|apply wG|(apply wR;simp -dsimp[setL_whole,hl57,e1])|refine aI ?_)
  by_cases hd:(decF R[i]).2=0∧(decF R[i]).1 0=crew∧(decF R[i]).1 1=(i:Int)+1
  ·obtain⟨d1,d2,d3⟩:=hd
   have hnum:=zL_ (show R[i].length≤1000000000000 by omega) d1
   have h60:=gU_ seed m u (decF R[i]).1 hdo
   refine cF (by simp[d1,d2,d3]) ?_
   refine WP.skip ?_
   by_cases him:(i:Int)<m
   ·have hok:onK crew m i R[i]=true:=decide_eq_true ⟨d1,d2,d3,him⟩
    have hsr:sgnR seed m u (decF R[i]).1=(sgc (sgQ seed m (decF R[i]).1),0):=by
     rw[sgnR,if_pos hnum,if_pos ⟨hk,by omega⟩];rfl
    rw[hsr] at h60
    rw[hgd] at hsn
    have hon2:onB crew m 0 (R.take (i+1))=true:=by
     rw[ht,oX_,hon,Nat.zero_add,lti,onB,hok];rfl
    have hso:dP_ (sgQ seed m (decF R[i]).1):=⟨hdo,rfl,fun d hd=>cK_ hd⟩
    have hl61:=gf_ seed m (decF R[i]).1
    have h61:=gT_ hso
    have h1o:=dY_ hso
    have h1d:=sgc_oneD hso
    have lW:=de_ seed m (R.take i)
    rw[lti] at lW
    generalize sgQ seed m (decF R[i]).1=w at *
    simp -dsimp
    repeat(first|apply wG|(apply wR;simp -dsimp[hl57,slB])|refine aI ?_)
    refine aa_ dI_ h60 rfl rfl (by simp[keyD,fD,slB]) ?_
    simp -dsimp
    repeat(first|apply wG|(apply wR;simp -dsimp[setL_whole,hl61])|refine aI ?_)
    refine cE ?_
    refine WP.skip ?_
    simp -dsimp
    repeat(first|apply wG|(apply wR;simp -dsimp[hl61,lW,h61,e1])|refine aI ?_)
    refine loopW.next (onRS crew seed m u M R Y (i+1)) (Wk.go [55,10,12] 56 500 (by decide) (by simp[slB]) (by simp[e1,slB]) (by simp[lgC,slB,hsn])) (R.length-(i+1)) (by omega) ⟨i+1,rfl,by omega,hon2,rfl⟩
   ·have hno:onB crew m 0 R=false:=xF_ hin (by rw[onK,decide_eq_false_iff_not];rintro⟨_,_,_,h⟩;exact him h)
    have hsr:(sgnR seed m u (decF R[i]).1).1=fcs f0 0 57++zsC∧(sgnR seed m u (decF R[i]).1).2≠0:=by
     rw[sgnR,if_pos hnum,if_neg (by rintro⟨_,h⟩;omega)]
     exact⟨rfl,by decide⟩
    have hz1:=sgc_oneD (p:=(f0,zsC)) ⟨r8_,rfl,by decide⟩
    have hz61:=bp_ (p:=(f0,zsC)) ⟨r8_,rfl,by decide⟩
    simp only[sgc] at hz1 hz61
    rw[hsr.1] at h60
    have hs2:=hsr.2
    generalize fcs f0 0 57++zsC=Z at *
    generalize (sgnR seed m u (decF R[i]).1).2=z at *
    rw[onR,if_neg (by rw[hno];decide)]
    simp -dsimp
    repeat(first|apply wG|(apply wR;simp -dsimp[hl57,slB])|refine aI ?_)
    refine aa_ dI_ h60 rfl rfl (by simp[keyD,fD,slB]) ?_
    simp -dsimp
    refine And.intro ⟨hz61,fun d hd=>hz1 d hd⟩ ?_
    simp -dsimp[setL_whole,hz61]
    refine sG ?_
    refine cT (by simp[hs2]) ?_
    refine sG ?_
    refine WP.ret (ab_ ?_)
    simp -dsimp[sgC]
  ·have hno:onB crew m 0 R=false:=xF_ hin (by rw[onK,decide_eq_false_iff_not];rintro⟨h1,h2,h3,_⟩;exact hd ⟨h1,h2,h3⟩)
   rw[onR,if_neg (by rw[hno];decide)]
   refine cT (by simp;omega) ?_
   refine sG ?_
   refine WP.ret (ab_ ?_)
   simp -dsimp[sgC]
 ·obtain rfl:i=R.length:=by omega
  rw[List.take_length] at hon
  rw[onR,if_pos hon]
  refine cE ?_
  refine WP.exit ?_
  refine sH ?_
  refine WP.ret (aj_ (Wk.freeze (k:=500) (T:=78) (sz:=61) (n:=R.length) (ds:=sgC (onL seed m R)) (by simp)) ?_)
  simp -dsimp[b4_]
end Go.Proofs.YtkcgffilldklcaaGreatDoor
namespace Go.Proofs.YtkcgffilldklcaaGreatDoor
open Go.Xe Go.RowKit
theorem vP_ {r:Rm} (h:rmB r=true):(0≤r.crew∧r.crew<32∧r.used=r.fs.length∧0≤r.sent∧r.sent≤r.fs.length)∧keyV r.seed r.many r.used=true∧dkB r.dk=true∧hM_ (onL r.seed r.many r.lr) r.fs=true:=by
 simp only[rmB,Bool.and_eq_true,decide_eq_true_eq] at h
 exact⟨h.1,h.2.1,h.2.2.1.1,h.2.2.2.2.2⟩
theorem AT_ {r:Rm} (hr:∀ p∈r.fs,fOk p.1∧sgT p) (h:rmB r=true):okR r.crew r.seed r.many r.dk.s r.dk.left r.sent∧r=mkR r.crew r.seed r.many r.dk.s r.dk.left r.sent:=by
 have hd:=aZ_.1 (vP_ h).2.2.1
 have hsm:=bn_ hd.2.2 hd.1.2.1
 exact p3_ hr (fun b hb=>by have:=hsm b hb;omega) h
theorem x6_ {r:Rm} (h:rmB r=false):ckR r=440:=by rw[ckR,h];rfl
theorem uV_ {r:Rm} (h:rmB r=true):ckR r=0:=by rw[ckR,h];rfl
end Go.Proofs.YtkcgffilldklcaaGreatDoor
namespace Go.Proofs.YtkcgffilldklcaaGreatDoor
open Go.Xe Go.RowKit
def nmB (n m k:Nat):By:=List.replicate (m-k) 0++beB n k
theorem zc_ {n m k:Nat} (h:k≤m):(nmB n m k).length=m:=by rw[nmB,List.length_append,List.length_replicate,beB_len];omega
theorem we_ {n m k:Nat} (h:k<m):(nmB n m k).set (m-1-k) (UInt8.ofNat (n/256^k))=nmB n m (k+1):=by
 obtain⟨j,rfl⟩:∃ j,m=k+1+j:=⟨m-(k+1),by omega⟩
 have e1:k+1+j-k=j+1:=by omega
 have e2:k+1+j-(k+1)=j:=by omega
 have e3:k+1+j-1-k=j:=by omega
 rw[nmB,nmB,e1,e2,e3,List.replicate_succ',List.append_assoc,List.set_append_right _ _ (by simp),List.length_replicate,Nat.sub_self,beB]
 rfl
theorem zb_ (x:Nat) (h:x<18446744073709551616):IntKind.u8.wrap ((x:Int).tmod 256)=((UInt8.ofNat x).toNat:Int):=by
 rw[Int.tmod_eq_emod_of_nonneg (by omega),IntKind.wrap_u8,UInt8.toNat_ofNat'];omega
theorem BE_ (x:Nat) (h:x<18446744073709551616):IntKind.u64.wrap ((x:Int)/256)=((x/256:Nat):Int):=by
 rw[IntKind.wrap_u64];omega
abbrev nmS (x n m k:Nat):St:=mkS 24 [(0,.d (.v (.int .u64 (x:Int)))),(5,.row 500),(6,.d (.v (.int .i64 ((m:Int)-1-k))))] [(500,.row 5 1 m ((bys (nmB n m k)).map .d))]
set_option maxRecDepth 10000 in
set_option maxHeartbeats 2000000 in
theorem is_ (n m:Nat) (hn:n<18446744073709551616) (h1:1≤m) (hm:m≤4):Fun Tryz.prog 136 [.d (.v (.int .u64 n)),.d (.v (.int .i64 m))] [] (.row 0) [(0,.row 5 1 m ((bys (beB n m)).map .d))] fun _=>False:=by
 have e0:IntKind.i64.wrap ((m:Int)-1)=(m:Int)-1:=IntWalk.i64_in _ (by omega)
 refine ad_ (pn:=an_) ac_ Tryz.func136 rfl fun β0=>?_
 simp only[Tryz.f136]
 refine sG ?_
 refine cJ_ ac_ 8 rfl rfl rfl (c:=m) rfl rfl (by simp;omega) (by simp[maxLen];omega) (by simp) (lC_ m) ?_
 simp -dsimp
 repeat(first|apply wG|(apply wR;simp -dsimp[e0])|refine aI ?_)
 refine ai_ (fun q S=>∃ k x:Nat,q=m-k∧k≤m∧n/256^k=x∧S=nmS x n m k) m (S0:=nmS n n m 0) (Wk.go [] 8 500 (by decide) (by simp) (by simp) (by simp[nmB,beB])) ⟨0,n,rfl,by omega,by simp,rfl⟩ ?_
 rintro _ _ ⟨k,x,rfl,hk,hx0,rfl⟩
 refine sH ?_
 by_cases hkm:k<m
 ·have hx:x<18446744073709551616:=hx0▸Nat.lt_of_le_of_lt (Nat.div_le_self _ _) hn
  have eb:=zb_ x hx
  have ed:=BE_ x hx
  have hx1:n/256^(k+1)=x/256:=by rw[Nat.pow_succ,← Nat.div_div_eq_div_mul,hx0]
  have ls:=ah_ (nmB n m k)
  have ln:=zc_ (n:=n) (Nat.le_of_lt hkm)
  have st:=we_ (n:=n) hkm
  rw[hx0] at st
  have ei:((m:Int)-1-k).toNat=m-1-k:=by omega
  have e1:IntKind.i64.wrap ((m:Int)-1-k-1)=(m:Int)-1-((k+1:Nat):Int):=by rw[IntWalk.i64_in _ (by omega)];omega
  obtain⟨ch,hch⟩:∃ ch,UInt8.ofNat x=ch:=⟨_,rfl⟩
  rw[hch] at eb st
  obtain⟨y,hy⟩:∃ y,x/256=y:=⟨_,rfl⟩
  rw[hy] at ed hx1
  refine cT (by simp;omega) ?_
  refine WP.skip ?_
  simp -dsimp
  repeat(first|apply wG|(apply wR;simp -dsimp[ei,eb,ls,ln,bysA_set,st,ed])|refine aI ?_)
  refine loopW.next (nmS y n m (k+1)) (ae_ [] (by simp[e1]) (by simp)) (m-(k+1)) (by omega) ⟨k+1,y,rfl,by omega,hx1,rfl⟩
 ·obtain rfl:k=m:=by omega
  have hE:nmB n k k=beB n k:=by rw[nmB,Nat.sub_self];rfl
  refine cF (by simp;omega) ?_
  refine WP.exit ?_
  refine sH ?_
  refine WP.ret (aj_ (S':=mkS 24 [(4,.row 0)] [(0,.row 5 1 k ((bys (beB n k)).map .d))]) (Wk.go [] 500 0 (by decide) (by simp) (by simp) (by simp[hE])) ?_)
  simp -dsimp
end Go.Proofs.YtkcgffilldklcaaGreatDoor
namespace Go.Proofs.YtkcgffilldklcaaGreatDoor
open Go.Xe Go.RowKit
theorem rR_ (c m k:Int):Fun Tryz.prog 10 [.d (.v (.int .i64 c)),.agg [.row 1000,.d (.v (.int .i64 m)),.d (.v (.int .i64 0))],.d (.v (.int .i64 k))] [(1000,.row 5 1 1 [.d (.v (.int .u8 1))])] (.d (rmT (tY_ c [1] m 0 k))) [] fun _=>False:=by
 have h12:=kN_ c [1] (by decide) m 0 k
 have h12':Fun Tryz.prog 10 [.d (.v (.int .i64 c)),.agg [.d (slB [1]),.d (.v (.int .i64 m)),.d (.v (.int .i64 0))],.d (.v (.int .i64 k))] [] (.d (rmT (tY_ c [1] m 0 k))) [] fun _=>False :=
  rb_ h12 (And.intro (.refl _) (And.intro (al_ [slB [1],.v (.int .i64 m),.v (.int .i64 0)]) (And.intro (.refl _) trivial)))
 exact bm_ 1000 (T:=5) (cs:=bys [1]) h12' rfl rfl trivial
theorem j0_ (t:Int):Fn0 Tryz.prog 11 [.v (.int .i64 t)] (fD (shF 0 9 t)):=by
 refine ad_ (pn:=an_) ac_ Tryz.func11 rfl fun β0=>?_
 simp only[Tryz.f11]
 refine sG ?_
 refine WP.ret (ab_ ?_)
 simp -dsimp
 exact al_ (fcs (shF 0 9 t) 0 57)
theorem AP_ (p:Sg) (l:List Sg):((sgC (p::l))[0]?).getD .any=.v (.int .i64 (p.1 0))∧((sgC (p::l))[1]?).getD .any=.v (.int .i64 (p.1 1)):=⟨rfl,rfl⟩
set_option maxRecDepth 10000 in
set_option maxHeartbeats 8000000 in
theorem s2_:Fn0 Tryz.prog 4 [] (.v (.bool true)):=by
 have h31:=vD_ 1 2
 rw[EK_] at h31
 have h12:=rR_ 32 1 9
 rw[yL_] at h12
 have k5:=j0_ 5
 have k6:=j0_ 6
 have o5:fOk (shF 0 9 5):=zf_ _ _ _ (by decide) (by decide) (by decide) (by decide) (by decide) (by decide)
 have o6:fOk (shF 0 9 6):=zf_ _ _ _ (by decide) (by decide) (by decide) (by decide) (by decide) (by decide)
 have r0:rmOk q0:=iI_ rN_ (by decide)
 have r1:rmOk q1:=iI_ oU_.1 (by decide)
 have r2:rmOk q2:=iI_ yN_ (by decide)
 have rz:rmOk zeR:=⟨by unfold isI;decide,by unfold isI;decide,by unfold isI;decide,⟨by decide,by decide,by unfold isI;decide⟩,by decide,by decide,by decide,fun _ h=>by cases h⟩
 have g0:=hP_ q0 r0 (shF 0 9 5) o5
 have g1:=hP_ q1 r1 (shF 0 9 6) o6
 have gz:=hP_ q0 r0 f0 r8_
 have c0:=qf_ q0 r0 1
 have c1:=qf_ q1 r1 1
 have b1:=qg_ q1 r1 (by rw[tA_];decide)
 have b2:=qg_ q2 r2 (by show q1.fs.length≤_;rw[tA_];decide)
 have s2:=qe_ q2 r2
 have x0:=c8_ q0 r0
 have xz:=c8_ zeR rz
 have sm:=mg_ q1 r1 rfl
 rw[EJ_] at g0
 rw[AW_] at g1
 rw[AX_] at gz
 rw[A3_] at c0
 rw[A2_] at c1
 rw[A5_] at b1
 rw[A4_] at b2
 rw[EI_] at s2
 rw[EM_] at x0
 rw[EL_] at xz
 have p0:(sgQ [1] 1 qF).1 0=2:=rfl
 have p1:(sgQ [1] 1 qF).1 1=1:=rfl
 have hso:dP_ (sgQ [1] 1 qF):=⟨yM_,rfl,fun d hd=>cK_ hd⟩
 generalize sgQ [1] 1 qF=p at *
 have lp:=sgC_len (l:=[p]) (fun q hq=>by rw[List.mem_singleton.1 hq];exact hso)
 have t01:=AP_ p []
 rw[p0,p1] at t01
 obtain⟨t0,t1⟩:=t01
 generalize q0=q0 at *
 generalize q1=q1 at *
 generalize q2=q2 at *
 refine ad_ (pn:=an_) ac_ Tryz.func4 rfl fun β0=>?_
 simp only[Tryz.f4]
 refine sG ?_
 refine aa_ sq_ h31 rfl rfl (by simp) ?_
 simp -dsimp[rmT,rmD,rmC]
 refine sG ?_
 refine vcStop.call jA_ (h12) (rl [(1000,26)]) rfl rfl (by simp[BoxLeq]) aGq (fun _ h=>h.elim) (fun ⟨_,h⟩=>h.elim) (fun ⟨_,h⟩=>h.elim) (by simp[BoxLeq]) ?_
 simp -dsimp[rmT,rmD_ze]
 refine sG ?_
 refine aa_ jz_ k5 rfl rfl (by simp) ?_
 refine sH ?_
 refine aa_ eL_ g0 rfl rfl (by simp[rmD,rmC,fD]) ?_
 simp -dsimp[rmT,rmD,rmC]
 refine sG ?_
 refine aa_ jz_ k6 rfl rfl (by simp) ?_
 refine sH ?_
 refine aa_ eL_ g1 rfl rfl (by simp[rmD,rmC,fD]) ?_
 simp -dsimp[rmT,rmD_ze]
 refine sG ?_
 refine ao_ eL_ gz rfl rfl (And.intro (by simp[rmD,rmC]) (And.intro (al_ (fcs f0 0 57)) trivial)) ?_
 simp -dsimp[rmT,rmD_ze]
 refine sG ?_
 refine aa_ jy_ c0 rfl rfl (by simp[rmD,rmC]) ?_
 simp -dsimp[rmT,rmD_ze]
 refine sG ?_
 refine aa_ jy_ c1 rfl rfl (by simp[rmD,rmC]) ?_
 simp -dsimp[rmT,rmD,rmC]
 refine sG ?_
 refine aa_ jx_ b1 rfl rfl (by simp[rmD,rmC]) ?_
 refine sH ?_
 refine aa_ jx_ b2 rfl rfl (by simp[rmD,rmC]) ?_
 refine sH ?_
 refine aa_ jw_ s2 rfl rfl (by simp[rmD,rmC]) ?_
 simp -dsimp[rmT,rmD,rmC]
 refine sG ?_
 refine cE ?_
 refine WP.skip ?_
 simp -dsimp
 repeat(first|apply wG|(apply wR;simp -dsimp[lp,t0,t1,p0,p1,Nat.zero_add])|refine aI ?_)
 simp -dsimp[p0,p1,lp]
 refine And.intro (by simp[lp]) ?_
 simp -dsimp[t0,t1,p0,p1,lp]
 repeat refine aI ?_
 refine af_ bC_ (fun _=>x0) rfl (fun _=>rfl) (fun _=>by simp[rmD,rmC]) ?_
 refine sH ?_
 refine cZ_ bC_ (fun _=>xz) rfl (fun _=>rfl) (fun _=>And.intro (by simp[rmD_ze]) trivial) ?_
 refine sH ?_
 refine af_ ks_ (fun _=>sm) rfl (fun _=>rfl) (fun _=>by simp[rmD,rmC]) ?_
 refine sH ?_
 refine WP.ret (ab_ ?_)
 simp -dsimp
end Go.Proofs.YtkcgffilldklcaaGreatDoor
namespace Go.Xe
open Go.RowKit
section
variable [Glob]
theorem gl_ {P:Program} (w:World) {t u ty e:TypeId} {i:TypeInfo} {kn kx:IntKind} (ht:P.underlying t=some (.slice e)) (hu:P.underlying u=some (.int kn)) (hi:P.info? e=some i)
  {v:Value} {n:Nat} {xs:List Value} (hown:w.ownsRow 0 e 1 v n xs):(Builtin.append_ #[t,u] ty #[v,.int kx 0]).run P w=.ok v w:=by
 have hw:IntKind.i64.wrap 0=0:=by decide
 rcases hown.2 with⟨rfl,rfl⟩|⟨g,cap,cur,rfl,_,hg,hnc,hcm,hcs,htk⟩
 ·simp[Builtin.append_,run_underlying ht,run_underlying hu,sizeOf,typeInfo,hi,asInt,asIntOf,hw]
 ·simp[Builtin.append_,run_underlying ht,run_underlying hu,sizeOf,typeInfo,hi,asInt,asIntOf,hw,hnc,storeCells]
theorem jT_ {P:Program} {τ:Tab} (hτ:ax_ P τ) {ds:Dn} {pn:Pn} {o:Oper} {S:St} {T T' E:TypeId} {x y:Operand} (ho:o.op=.call ⟨.builtin .append,#[x,y],#[T,T']⟩) {k j:Nat}
  {te:TE} {kn kx:IntKind} {sz1 b1 sz2 b2:Nat} {z1 z2:List Value} (ht:τ T=some ⟨.slice E,sz1,b1,z1⟩) (ht':τ T'=some ⟨.int kn,sz2,b2,z2⟩) (hte:τ E=some te)
  (hx:S.ev x=.row j) {n:Nat} {cs:List AV} (hb:getB S.bx j=some (.row E 1 n cs)) (hy:S.ev y=.d (.v (.int kx 0))) (hk0:S.has k=false) :
  LCore P ds pn o S ⟨.row k,[j],[],[(k,.row E 1 n cs)]⟩ [j]:=by
 intro S1 hs hf
 have ex:=hs.1 x (by simp[ho,Op.operands,Call.operands])
 have ey:=hs.1 y (by simp[ho,Op.operands,Call.operands])
 rw[← ex] at hx
 rw[← ey] at hy
 obtain⟨d,hu,hk⟩:=(hτ T _ ht).und
 obtain⟨d',hu',hk'⟩:=(hτ T' _ ht').und
 simp only[TK.ok] at hk hk'
 subst hk;subst hk'
 obtain⟨i,z,hi,his,hib,hiz,hzc,hzl',hz1⟩:=(hτ E te hte).info
 have hk0:S1.has k=false:=hf _ (List.mem_singleton.2 rfl)
 have hk1:=aK_ hk0
 refine Core.world fun w0 I0 F I β a w hr=>?_
 have hb1:=(hs.2.2 j (by simp)).trans hb
 obtain⟨xs,how,hdx,hox⟩:=hr.mem.bxs j _ hb1
 have hv:=hr.ev x
 have hvy:=hr.ev y
 rw[hx,DenA] at hv
 rw[hy,DenA_v] at hvy
 have hrun:=gl_ (P:=P) w (ty:=o.type) (kx:=kx) hu hu' hi how
 refine⟨β j,w,I,upd β k (β j),?_,?_⟩
 ·obtain⟨C,hC⟩:=aE_ (P:=P) ho;rw[hC];simp[builtin,hv.1,hvy,hrun]
 ·exact hr.appended hk0 (gZ_ w _) (.inl rfl) (ba_ how) (.inr ⟨j,_,rfl,hb1,rfl,gK_ how⟩) how hdx hox (by
    have h5:=(hasB_get hk1.2).2 j _ hb1
    simp only[Box.cs] at h5
    exact h5) o.dst
theorem id_ {P:Program} {τ:Tab} (hτ:ax_ P τ) {ds:Dn} {pn:Pn} {o:Oper} {S:St} {acc:List TI} {rest:St→List TI→Prop} {T T' E:TypeId} {x y:Operand} (ho:o.op=.call ⟨.builtin .append,#[x,y],#[T,T']⟩) {k j:Nat}
  {te:TE} {kn kx:IntKind} {sz1 b1 sz2 b2:Nat} {z1 z2:List Value} (ht:τ T=some ⟨.slice E,sz1,b1,z1⟩) (ht':τ T'=some ⟨.int kn,sz2,b2,z2⟩) (hte:τ E=some te)
  (hx:S.ev x=.row j) {n:Nat} {cs:List AV} (hb:getB S.bx j=some (.row E 1 n cs)) (hy:S.ev y=.d (.v (.int kx 0))) (hk0:S.has k=false)
  (h:rest (S.app o.dst ⟨.row k,[j],[],[(k,.row E 1 n cs)]⟩) (⟨⟨.row k,[j],[],[(k,.row E 1 n cs)]⟩,[j]⟩::acc)):vcStop P ds pn o rest S acc :=
 ⟨_,_,jT_ hτ ho ht ht' hte hx hb hy hk0,⟨hk0,trivial⟩,h⟩
theorem ic_ {P:Program} {τ:Tab} (hτ:ax_ P τ) {ds:Dn} {pn:Pn} {o:Oper} {S:St} {acc:List TI} {rest:St→List TI→Prop} {T T' E:TypeId} {x y:Operand} (ho:o.op=.call ⟨.builtin .append,#[x,y],#[T,T']⟩) {k j:Nat}
  {te:TE} {zl:Value} {kn kx:IntKind} {sz1 b1 sz2 b2:Nat} {z1 z2:List Value} (ht:τ T=some ⟨.slice E,sz1,b1,z1⟩) (ht':τ T'=some ⟨.int kn,sz2,b2,z2⟩) (hte:τ E=some te) (hts:te.size=1) (hzl:te.zero=[zl])
  (hx:S.ev x=.row j) {n:Nat} {cs:List AV} (hb:getB S.bx j=some (.row E 1 n cs)) {m:Nat} (hy:S.ev y=.d (.v (.int kx m))) (hbnd:(n+m)*(te.bytes+1)≤140737488355328) (hk0:S.has k=false)
  (h:rest (S.app o.dst ⟨.row k,[j],[],[(k,.row E 1 (n+m) (cs++List.replicate m (.d (.v zl))))]⟩) (⟨⟨.row k,[j],[],[(k,.row E 1 (n+m) (cs++List.replicate m (.d (.v zl))))]⟩,[j]⟩::acc)):vcStop P ds pn o rest S acc:=by
 rcases Nat.eq_zero_or_pos m with rfl|hm
 ·rw[Nat.add_zero,List.replicate_zero,List.append_nil] at h
  exact id_ hτ ho ht ht' hte hx hb hy hk0 h
 ·exact aB_ hτ ho ht ht' hte hts hzl hx hb hm hy hbnd hk0 h
end
end Go.Xe
namespace Go.Proofs.YtkcgffilldklcaaGreatDoor
open Go.Xe Go.RowKit
abbrev FJ_ (g num:Nat) (bg en:Bool) (b:By) (k:Int):St:=mkS 50 [(0,.d (.v (.int .u64 g))),(1,.d (.v (.int .i64 num))),(2,.d (.v (.bool bg))),(3,.d (.v (.bool en))),(4,.d (slB b)),(10,.d (.v (.slice none 0 0))),(11,.d (.v (.int .u8 k)))] []
def kdB (bg en:Bool):Nat:=(if bg then 1 else 0)+(if en then 2 else 0)
set_option maxRecDepth 10000 in
set_option maxHeartbeats 2000000 in
theorem ti_ (g num:Nat) (hg:g<18446744073709551616) (hn:num<1000000) (bg en:Bool) (b:By) (hb:b.length≤112) :
  Fn0 Tryz.prog 81 [.v (.int .u64 g),.v (.int .i64 num),.v (.bool bg),.v (.bool en),slB b] (slB (secE g num (kdB bg en) b)):=by
 have en':IntKind.u64.wrap (num:Int)=(num:Int):=by rw[IntKind.wrap_u64];omega
 have el:=q0_ b.length
 obtain⟨kc,hk1,hk2⟩:∃ kc:UInt8,kc.toNat=kdB bg en∧UInt8.ofNat (kdB bg en)=kc:=⟨UInt8.ofNat (kdB bg en),by cases bg<;>cases en<;>decide,rfl⟩
 rw[← hk1]
 have hnm:=is_ num 2 (by omega) (by decide) (by decide)
 have hgm:=is_ g 4 hg (by decide) (by decide)
 have w1:IntKind.u8.wrap 1=1:=by decide
 have w2:IntKind.u8.wrap 2=2:=by decide
 have w3:IntKind.u8.wrap 3=3:=by decide
 refine ad_ (pn:=an_) ac_ Tryz.func81 rfl fun β0=>?_
 simp only[Tryz.f81]
 refine sG ?_
 refine pj_ (FJ_ g num bg en b (if bg then 1 else 0)) ?_ ?_
 ·cases bg with
  | true =>
   refine cU ?_
   refine sG ?_
   refine aL_ (ae_ [] (by simp[w1]) (by simp))
  | false =>
   refine cE ?_
   refine WP.skip ?_
   refine aL_ (ae_ [] (by simp) (by simp))
 refine sG ?_
 refine pj_ (FJ_ g num bg en b (kc.toNat:Int)) ?_ ?_
 ·cases en with
  | true =>
   refine cU ?_
   refine sG ?_
   have h:IntKind.u8.wrap ((if bg=true then (1:Int) else 0)+2)=(kc.toNat:Int):=by rw[hk1];cases bg<;>decide
   refine aL_ (ae_ [] (by simp[h]) (by simp))
  | false =>
   refine cE ?_
   refine WP.skip ?_
   have h:(if bg=true then (1:Int) else 0)=(kc.toNat:Int):=by rw[hk1];cases bg<;>decide
   refine aL_ (ae_ [] (by simp[h]) (by simp))
 have e112:IntKind.i64.wrap (112-(b.length:Int))=((112-b.length:Nat):Int):=by rw[IntWalk.i64_in _ (by omega)];omega
 obtain⟨lc,hlc⟩:∃ lc,UInt8.ofNat b.length=lc:=⟨_,rfl⟩
 rw[hlc] at el
 repeat(first|apply wG|(apply wR;simp -dsimp[en',el,e112])|refine aI ?_)
 refine vcStop.call cX_ (hnm) (rl [(0,600)]) rfl rfl (by simp[slB,BoxLeq]) (ag_ (by simp[slB,BoxLeq]) rfl (by first|rfl|(simp[slB,BoxLeq];done)) (by simp[slB,BoxLeq]) (by simp[slB,BoxLeq])) (fun _ h=>h.elim) (fun ⟨_,h⟩=>h.elim) (fun ⟨_,h⟩=>h.elim) (by simp[slB,BoxLeq]) ?_
 simp -dsimp
 repeat(first|apply wG|(apply wR;simp -dsimp[el,e112])|refine aI ?_)
 refine ic_ ac_ (m:=112-b.length) (k:=36) (j:=31) rfl rfl rfl rfl rfl rfl rfl rfl rfl (by show (4+b.length+(112-b.length))*2≤_;omega) (by simp) ?_
 simp -dsimp
 have hbl:4+b.length+(112-b.length)=(bodS num kc.toNat b).length:=by rw[bodS_len hb];omega
 have hbd:(bys (bodS num kc.toNat b)).map AV.d=List.map AV.d (bys (beB num 2))++AV.d (D.v (Value.int IntKind.u8 kc.toNat))::AV.d (D.v (Value.int IntKind.u8 lc.toNat))::(List.map AV.d (bys b)++List.replicate (112-b.length) (AV.d (D.v (Value.int IntKind.u8 0)))):=by
  rw[bodS,UInt8.ofNat_toNat,hlc];simp only[bys,List.map_append,List.map_cons,List.map_replicate,a6_];rfl
 refine aq_ (Wk.freeze (k:=36) (T:=5) (sz:=1) (n:=(bodS num kc.toNat b).length) (ds:=bys (bodS num kc.toNat b)) (by rw[hbd,← hbl];rfl)) ?_
 refine sH ?_
 refine vcStop.call cX_ (hgm) (rl [(0,601)]) rfl rfl (by simp[slB,BoxLeq]) (ag_ (by simp[slB,BoxLeq]) rfl (by first|rfl|(simp[slB,BoxLeq];done)) (by simp[slB,BoxLeq]) (by simp[slB,BoxLeq])) (fun _ h=>h.elim) (fun ⟨_,h⟩=>h.elim) (fun ⟨_,h⟩=>h.elim) (by simp[slB,BoxLeq]) ?_
 refine sH ?_
 have hcr:=mv_ (bodS num kc.toNat b) (by rw[bodS_len hb];decide)
 have hlt32:=(crcB (bodS num kc.toNat b)).isLt
 obtain⟨cx,hcx⟩:∃ cx,crcB (bodS num kc.toNat b)=cx:=⟨_,rfl⟩
 rw[hcx] at hcr hlt32
 have hcm:=is_ cx.toNat 4 (by omega) (by decide) (by decide)
 have ew:IntKind.u64.wrap (wI cx)=((cx.toNat:Nat):Int):=by rw[wI,IntKind.wrap_u64];omega
 refine aa_ hr_ hcr rfl rfl (by simp[slB]) ?_
 simp -dsimp
 repeat(first|apply wG|(apply wR;simp -dsimp[ew])|refine aI ?_)
 refine vcStop.call cX_ (hcm) (rl [(0,602)]) rfl rfl (by simp[slB,ew,BoxLeq]) (ag_ (by simp[slB,ew,BoxLeq]) rfl (by first|rfl|(simp[slB,ew,BoxLeq];done)) (by simp[slB,ew,BoxLeq]) (by simp[slB,ew,BoxLeq])) (fun _ h=>h.elim) (fun ⟨_,h⟩=>h.elim) (fun ⟨_,h⟩=>h.elim) (by simp[slB,ew,BoxLeq]) ?_
 refine sH ?_
 refine vcStop.call cX_ (hgm) (rl [(0,603)]) rfl rfl (by simp[slB,BoxLeq]) (ag_ (by simp[slB,BoxLeq]) rfl (by first|rfl|(simp[slB,BoxLeq];done)) (by simp[slB,BoxLeq]) (by simp[slB,BoxLeq])) (fun _ h=>h.elim) (fun ⟨_,h⟩=>h.elim) (fun ⟨_,h⟩=>h.elim) (by simp[slB,BoxLeq]) ?_
 refine sH ?_
 refine And.intro ⟨beB_len g 4,by rw[bodS_len hb];decide⟩ ?_
 have hsl:8+(bodS num kc.toNat b).length+4=(secE g num kc.toNat b).length:=by rw[ev_ hb,bodS_len hb]
 have hse:(bys (secE g num kc.toNat b)).map AV.d=List.map AV.d (bys (beB g 4))++(List.map AV.d (bys (beB cx.toNat 4))++(List.map AV.d (bys (bodS num kc.toNat b))++List.map AV.d (bys (beB g 4)))):=by
  rw[secE,hcx];simp only[bys,List.map_append]
 refine WP.ret (aj_ (Wk.freeze (k:=49) (T:=5) (sz:=1) (n:=(secE g num kc.toNat b).length) (ds:=bys (secE g num kc.toNat b)) (by rw[hse,← hsl];rfl)) ?_)
 simp -dsimp[slB]
end Go.Proofs.YtkcgffilldklcaaGreatDoor
