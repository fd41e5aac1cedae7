/-
  Joined texts.
-/
import Derived.Test.YtfgcgagcpnbgmaaGreatDoorGOj
import Derived.Test.YtfgcgagcpnbgmaaGreatDoorGJz
import Derived.Test.YtfgcgagcpnbgmaaGreatDoorGOg
import Derived.Test.YtfgcgagcpnbgmaaGreatDoorGTr
import Derived.Test.YtfgcgagcpnbgmaaGreatDoorGTo
import Derived.Test.YtfgcgagcpnbgmaaGreatDoorGTu
import Derived.Test.YtfgcgagcpnbgmaaGreatDoorGFu
set_option linter.all false
set_option maxRecDepth 10000
namespace Go.Proofs.YtfgcgagcpnbgmaaGreatDoor
open Go.Xe Go.RowKit
def os_ (r:Rm):List Sg×Int:=if rmB r=true then (r.fs.drop r.sent.toNat,0) else ([],440)
def sm_ (r:Rm) (n:Int):Rm×Int:=if rmB r=true then if r.sent≤n∧n≤r.fs.length then ({ r with sent:=n },0) else (zeR,440) else (zeR,440)
theorem qd_ {r:Rm} (h:rmB r=true):0≤r.sent∧r.sent≤r.fs.length:=by
 simp only[rmB,Bool.and_eq_true,decide_eq_true_eq] at h
 exact⟨h.1.2.2.2.1,h.1.2.2.2.2⟩
set_option maxHeartbeats 2000000 in
theorem kK_ (r:Rm) (h:rmOk r) (hn:r.fs.length≤1000000):Fn0 Tryz.prog 19 [rmD r] (.tup [sgD (os_ r).1 false,.v (.int .i64 (os_ r).2)]):=by
 have h15:=cq_ r h
 unfold os_
 unfold ckR at h15
 cases hv:rmB r with
 | true =>
  rw[hv,if_pos rfl] at h15
  rw[if_pos rfl]
  obtain⟨s0,s1⟩:=qd_ hv
  obtain⟨k,hk⟩:∃ k:Nat,r.sent=k:=⟨r.sent.toNat,by omega⟩
  rw[hk,Int.toNat_natCast]
  have hkl:k≤r.fs.length:=by omega
  have hd:=(p9_ (fun q hq=>(h.fo q hq).1) hkl).2
  have lC:=sgC_len (l:=r.fs) fun q hq=>(h.fo q hq).1
  have hcl:=na_ (r.fs.drop k) (by rw[List.length_drop];omega) (fun p hp=>(h.fo p (List.mem_of_mem_drop hp)).1)
  rw[List.length_drop] at hcl
  have lD:=sgC_len (l:=r.fs.drop k) fun q hq=>(h.fo q (List.mem_of_mem_drop hq)).1
  rw[List.length_drop] at lD
  have ht:List.take ((r.fs.length-k)*61) (sgC (r.fs.drop k))=sgC (r.fs.drop k):=List.take_of_length_le (by omega)
  refine ad_ (pn:=an_) ac_ Tryz.func19 rfl fun β0=>?_
  simp only[Tryz.f19]
  repeat(first|apply wG|(apply wR;simp -dsimp[rmD,rmC,hk])|refine aI ?_)
  refine aa_ bl_ h15 rfl rfl (by simp[rmD,rmC,hk]) ?_
  simp -dsimp
  refine sG ?_
  refine cF (by simp) ?_
  refine WP.skip ?_
  simp -dsimp
  repeat(first|apply wG|(apply wR;simp -dsimp[hd,ht,hkl])|refine aI ?_)
  refine aa_ jn_ hcl rfl rfl (by simp[hd,ht]) ?_
  simp -dsimp
  refine sG ?_
  refine WP.ret (ab_ ?_)
  simp -dsimp
 | false =>
  rw[hv,if_neg (by decide)] at h15
  rw[if_neg (by decide)]
  refine ad_ (pn:=an_) ac_ Tryz.func19 rfl fun β0=>?_
  simp only[Tryz.f19]
  repeat(first|apply wG|(apply wR;simp -dsimp[rmD,rmC])|refine aI ?_)
  refine aa_ bl_ h15 rfl rfl (by simp[rmD,rmC]) ?_
  simp -dsimp
  refine sG ?_
  refine cT (by simp) ?_
  refine sG ?_
  refine WP.ret (ab_ ?_)
  simp -dsimp[sgC]
set_option maxHeartbeats 2000000 in
theorem kJ_ (r:Rm) (h:rmOk r) (n:Int):Fn0 Tryz.prog 21 [rmD r,.v (.int .i64 n)] (rmT (sm_ r n)):=by
 have h15:=cq_ r h
 unfold sm_
 unfold ckR at h15
 cases hv:rmB r with
 | true =>
  rw[hv,if_pos rfl] at h15
  rw[if_pos rfl]
  refine ad_ (pn:=an_) ac_ Tryz.func21 rfl fun β0=>?_
  simp only[Tryz.f21]
  repeat(first|apply wG|(apply wR;simp -dsimp[rmD,rmC])|refine aI ?_)
  refine aa_ bl_ h15 rfl rfl (by simp[rmD,rmC]) ?_
  simp -dsimp
  refine sG ?_
  refine cF (by simp) ?_
  refine WP.skip ?_
  simp -dsimp
  refine sG ?_
  by_cases hc:r.sent≤n∧n≤r.fs.length
  ·rw[if_pos hc]
   refine cF (by simp;omega) ?_
   refine WP.skip ?_
   simp -dsimp
   refine sG ?_
   refine WP.ret (ab_ ?_)
   simp -dsimp[rmT,rmD,rmC]
  ·rw[if_neg hc]
   refine cT (by simp;omega) ?_
   refine sG ?_
   refine WP.ret (ab_ ?_)
   simp -dsimp[rmT,rmD_ze]
 | false =>
  rw[hv,if_neg (by decide)] at h15
  rw[if_neg (by decide)]
  refine ad_ (pn:=an_) ac_ Tryz.func21 rfl fun β0=>?_
  simp only[Tryz.f21]
  repeat(first|apply wG|(apply wR;simp -dsimp[rmD,rmC])|refine aI ?_)
  refine aa_ bl_ h15 rfl rfl (by simp[rmD,rmC]) ?_
  simp -dsimp
  refine sG ?_
  refine cT (by simp) ?_
  refine sG ?_
  refine WP.ret (ab_ ?_)
  simp -dsimp[rmT,rmD_ze]
end Go.Proofs.YtfgcgagcpnbgmaaGreatDoor
set_option maxRecDepth 10000
namespace Go.Proofs.YtfgcgagcpnbgmaaGreatDoor
open Go.Xe Go.RowKit
theorem rA_ (seed:By) (m u:Int):Fn0 Tryz.prog 44 [keyD seed m u,keyD seed m u] (.v (.bool true)):=by
 refine ad_ (pn:=an_) ac_ Tryz.func44 rfl fun β0=>?_
 simp only[Tryz.f44]
 repeat(first|apply wG|(apply wR;simp -dsimp[keyD,slB])|refine aI ?_)
 refine WP.ret (ab_ ?_)
 simp -dsimp
abbrev srS (l:List By) (i:Nat):St:=mkS 28 [(0,.d (slLB l)),(1,.d (slLB l)),(5,.d (.v (.int .i64 i)))] []
set_option maxHeartbeats 1000000 in
theorem oP_ (l:List By) (hl:l.length≤1000000000000):Fn0 Tryz.prog 67 [slLB l,slLB l] (.v (.bool true)):=by
 have la:=aZ_ l
 refine ad_ (pn:=an_) ac_ Tryz.func67 rfl fun β0=>?_
 simp only[Tryz.f67]
 refine sG ?_
 refine cF (by simp) ?_
 refine WP.skip ?_
 simp -dsimp
 refine sG ?_
 refine ai_ (fun q S=>∃ i:Nat,q=l.length-i∧i≤l.length∧S=srS l i) l.length (S0:=srS l 0) (af_ [] (by simp) (by simp)) ⟨0,rfl,by omega,rfl⟩ ?_
 rintro _ _ ⟨i,rfl,hi,rfl⟩
 simp -dsimp
 refine sG ?_
 by_cases hin:i<l.length
 ·have e1:IntKind.i64.wrap ((i:Int)+1)=((i+1:Nat):Int):=by rw[IntWalk.i64_in _ (by omega)];omega
  refine cT (by simp;omega) ?_
  refine WP.skip ?_
  simp -dsimp
  repeat(first|apply wG|(apply wR;simp -dsimp[au_,la,hin])|refine aI ?_)
  refine cF (by simp) ?_
  refine WP.skip ?_
  simp -dsimp
  refine sG ?_
  refine loopW.next (srS l (i+1)) (af_ [] (by simp[e1]) (by simp)) (l.length-(i+1)) (by omega) ⟨i+1,rfl,by omega,rfl⟩
 ·obtain rfl:i=l.length:=by omega
  refine cF (by simp) ?_
  refine WP.exit ?_
  simp -dsimp
  refine sG ?_
  refine WP.ret (ab_ ?_)
  simp -dsimp
theorem rz_ (M:Int) (l:List By) (Y:Int) (hl:l.length≤1000000000000):Fn0 Tryz.prog 26 [logD M l Y,logD M l Y] (.v (.bool true)):=by
 have h67:=oP_ l hl
 refine ad_ (pn:=an_) ac_ Tryz.func26 rfl fun β0=>?_
 simp only[Tryz.f26]
 repeat(first|apply wG|(apply wR;simp -dsimp[logD,lgC])|refine aI ?_)
 refine ae_ jj_ (fun _=>h67) rfl (fun _=>rfl) (fun _=>by simp) ?_
 simp -dsimp
 refine sG ?_
 refine WP.ret (ab_ ?_)
 simp -dsimp
end Go.Proofs.YtfgcgagcpnbgmaaGreatDoor
set_option maxRecDepth 10000
namespace Go.Proofs.YtfgcgagcpnbgmaaGreatDoor
open Go.Xe Go.RowKit
theorem ml_ (seed:By) (hs:seed.length≤1000) (m u:Int):Fn0 Tryz.prog 41 [keyD seed m u] (.tup [dD (o6_ seed m u).1,.v (.int .i64 (o6_ seed m u).2)]):=by
 have h51:=dq_ seed m u
 unfold o6_
 refine ad_ (pn:=an_) ac_ Tryz.func41 rfl fun β0=>?_
 simp only[Tryz.f41]
 repeat(first|apply wG|(apply wR;simp -dsimp[keyD,slB])|refine aI ?_)
 refine aa_ dD_ h51 rfl rfl (by simp[keyD,slB]) ?_
 simp -dsimp
 refine sG ?_
 cases hk:keyV seed m u with
 | true =>
  rw[if_pos rfl]
  have hkk:=a0_.1 hk
  obtain⟨M,rfl⟩:∃ M:Nat,m=M:=⟨m.toNat,by omega⟩
  rw[Int.toNat_natCast]
  have h85:=j3_ fB_ seed hs M (by omega) u
  have lp:=bw_ seed M
  have h84:=ev_ fB_ (pubsB seed M) (ex_ seed M) (by omega) (by omega)
  have lT:(treeB (pubsB seed M)).length=32:=aO_ _
  have ld:=ah_ (treeB (pubsB seed M))
  refine cF (by simp[hk]) ?_
  refine WP.skip ?_
  simp -dsimp
  refine sG ?_
  refine aa_ je_ h85 rfl rfl (by simp[keyD,slB]) ?_
  simp -dsimp
  refine sG ?_
  refine aa_ b8_ h84 rfl rfl (by simp[slG]) ?_
  generalize treeB (pubsB seed M)=r at *
  simp -dsimp[dD]
  refine And.intro ⟨lT,fun a h=>ap_ h⟩ ?_
  refine sG ?_
  refine WP.ret (ab_ ?_)
  simp -dsimp[setL_whole,ah_,lT,aF_]
  exact st_ _ _
 | false =>
  rw[if_neg (by decide)]
  refine cT (by simp[hk]) ?_
  refine sG ?_
  refine WP.ret (ab_ ?_)
  simp -dsimp
  exact st_ (bys z32) _
def onR (crew:Int) (seed:By) (m:Int) (R:List By):D:=if onB crew m 0 R=true then .tup [sgD (onL seed m R) false,.v (.bool true)] else .tup [sgD [] false,.v (.bool false)]
abbrev onRS (crew:Int) (seed:By) (m u M:Int) (R:List By) (Y:Int) (i:Nat):St :=
 mkS 58 [(0,.d (.v (.int .i64 crew))),(4,.ptr 4 0),(5,.ptr 5 0),(8,.row 500),(9,.d (.v (.int .i64 i)))]
  [(4,.cells 24 [.d (slB seed),.d (.v (.int .i64 m)),.d (.v (.int .i64 u))]),(5,.cells 30 ((lgC M R Y).map .d)),(500,.row 82 61 i ((sgC (onL seed m (R.take i))).map .d))]
theorem xE_ {crew m:Int} {l:List By} {j:Nat} (hj:j<l.length) (h:onK crew m j l[j]=false):onB crew m 0 l=false:=by
 rw[Bool.eq_false_iff]
 intro h2
 have:=iB_ h2 hj
 rw[Nat.zero_add,h] at this
 cases this
theorem zI_ {b:By} (hb:b.length≤1000000000000) (h:(decF b).2=0):(numF (decF b).1).2=true:=by
 rcases decF_val hb with⟨_,he⟩|⟨hne,_⟩
 ·by_cases hv:(numF (decF b).1).2=true
  ·exact hv
  ·rw[x2_ hv] at he
   have:=congrArg Prod.snd he
   simp at this
 ·exact absurd h hne
set_option maxHeartbeats 4000000 in
theorem qh_ (crew:Int) (seed:By) (hs:seed.length≤1000) (m u:Int) (M:Int) (R:List By) (Y:Int) (hk:keyV seed m u=true) (hR:R.length≤1000000) (hb:∀ b∈R,b.length≤10000) :
  Fn0 Tryz.prog 53 [.v (.int .i64 crew),keyD seed m u,logD M R Y] (onR crew seed m R):=by
 obtain⟨k1,k2,k3,k4,k5,k6⟩:=a0_.1 hk
 have lll:=aZ_ R
 refine ad_ (pn:=an_) ac_ Tryz.func53 rfl fun β0=>?_
 simp only[Tryz.f53]
 repeat(first|apply wG|(apply wR;simp -dsimp[logD,lgC,keyD,slB])|refine aI ?_)
 refine ai_ (fun q S=>∃ i:Nat,q=R.length-i∧i≤R.length∧onB crew m 0 (R.take i)=true∧S=onRS crew seed m u M R Y i) R.length (S0:=onRS crew seed m u M R Y 0) (Wk.go [] 13 500 (by decide) (by simp) (by simp) (by simp[slB,lgC,onL,sgC])) ⟨0,rfl,by omega,rfl,rfl⟩ ?_
 rintro _ _ ⟨i,rfl,hi,hon,rfl⟩
 simp -dsimp[lgC,slB]
 repeat(first|apply wG|(apply wR;simp -dsimp[lgC])|refine aI ?_)
 by_cases hin:i<R.length
 ·have e1:IntKind.i64.wrap ((i:Int)+1)=(i:Int)+1:=IntWalk.i64_in _ (by omega)
  have hbi:=hb _ (List.getElem_mem hin)
  have hdec:=mv_ R[i] hbi
  have hdo:=lA_ (show R[i].length≤1000000000000 by omega)
  rw[m7_,fD] at hdec
  have hl57:=a4_ (decF R[i]).1
  have hsn:=la_ seed m R hin
  have hgd:R.getD i []=R[i]:=by rw[List.getD_eq_getElem?_getD,List.getElem?_eq_getElem hin];rfl
  have ht:R.take (i+1)=R.take i++[R[i]]:=by rw[List.take_add_one,List.getElem?_eq_getElem hin];rfl
  have lti:(R.take i).length=i:=by rw[List.length_take];omega
  refine cT (by simp;omega) ?_
  refine WP.skip ?_
  simp -dsimp
  repeat(first|apply wG|(apply wR;simp -dsimp[au_,lll,hin,lgC,slB])|refine aI ?_)
  refine aa_ px_ hdec rfl rfl (by simp[slB]) ?_
  simp -dsimp
  repeat(first|apply wG|(apply wR;simp -dsimp[setL_whole,hl57,e1])|refine aI ?_)
  by_cases hd:(decF R[i]).2=0∧(decF R[i]).1 0=crew∧(decF R[i]).1 1=(i:Int)+1
  ·obtain⟨d1,d2,d3⟩:=hd
   have hnum:=zI_ (show R[i].length≤1000000000000 by omega) d1
   have h60:=mk_ seed m u (decF R[i]).1 hdo
   refine cF (by simp[d1,d2,d3]) ?_
   refine WP.skip ?_
   by_cases him:(i:Int)<m
   ·have hok:onK crew m i R[i]=true:=decide_eq_true ⟨d1,d2,d3,him⟩
    have hsr:sgnR seed m u (decF R[i]).1=(sgc (sgQ seed m (decF R[i]).1),0):=by
     rw[sgnR,if_pos hnum,if_pos ⟨hk,by omega⟩];rfl
    rw[hsr] at h60
    rw[hgd] at hsn
    have hon2:onB crew m 0 (R.take (i+1))=true:=by
     rw[ht,o7_,hon,Nat.zero_add,lti,onB,hok];rfl
    have hso:dN_ (sgQ seed m (decF R[i]).1):=⟨hdo,rfl,fun d hd=>dm_ hd⟩
    have hl61:=ij_ seed m (decF R[i]).1
    have h61:=ii_ hso
    have h1o:=eU_ hso
    have h1d:=sgc_oneD hso
    have lW:=d2_ seed m (R.take i)
    rw[lti] at lW
    generalize sgQ seed m (decF R[i]).1=w at *
    simp -dsimp
    repeat(first|apply wG|(apply wR;simp -dsimp[hl57,slB])|refine aI ?_)
    refine aa_ jm_ h60 rfl rfl (by simp[keyD,fD,slB]) ?_
    simp -dsimp
    repeat(first|apply wG|(apply wR;simp -dsimp[setL_whole,hl61])|refine aI ?_)
    refine cF (by simp) ?_
    refine WP.skip ?_
    simp -dsimp
    repeat(first|apply wG|(apply wR;simp -dsimp[hl61,lW,h61,e1])|refine aI ?_)
    refine loopW.next (onRS crew seed m u M R Y (i+1)) (Wk.go [55,10,12] 56 500 (by decide) (by simp[slB]) (by simp[e1,slB]) (by simp[lgC,slB,hsn])) (R.length-(i+1)) (by omega) ⟨i+1,rfl,by omega,hon2,rfl⟩
   ·have hno:onB crew m 0 R=false:=xE_ hin (by rw[onK,decide_eq_false_iff_not];rintro⟨_,_,_,h⟩;exact him h)
    have hsr:(sgnR seed m u (decF R[i]).1).1=fcs f0 0 57++zsC∧(sgnR seed m u (decF R[i]).1).2≠0:=by
     rw[sgnR,if_pos hnum,if_neg (by rintro⟨_,h⟩;omega)]
     exact⟨rfl,by decide⟩
    have hz1:=sgc_oneD (p:=(f0,zsC)) ⟨uw_,rfl,by decide⟩
    have hz61:=bu_ (p:=(f0,zsC)) ⟨uw_,rfl,by decide⟩
    simp only[sgc] at hz1 hz61
    rw[hsr.1] at h60
    have hs2:=hsr.2
    generalize fcs f0 0 57++zsC=Z at *
    generalize (sgnR seed m u (decF R[i]).1).2=z at *
    rw[onR,if_neg (by rw[hno];decide)]
    simp -dsimp
    repeat(first|apply wG|(apply wR;simp -dsimp[hl57,slB])|refine aI ?_)
    refine aa_ jm_ h60 rfl rfl (by simp[keyD,fD,slB]) ?_
    simp -dsimp
    refine And.intro ⟨hz61,fun d hd=>hz1 d hd⟩ ?_
    simp -dsimp[setL_whole,hz61]
    refine sG ?_
    refine cT (by simp[hs2]) ?_
    refine sG ?_
    refine WP.ret (ab_ ?_)
    simp -dsimp[sgC]
  ·have hno:onB crew m 0 R=false:=xE_ hin (by rw[onK,decide_eq_false_iff_not];rintro⟨h1,h2,h3,_⟩;exact hd ⟨h1,h2,h3⟩)
   rw[onR,if_neg (by rw[hno];decide)]
   refine cT (by simp;omega) ?_
   refine sG ?_
   refine WP.ret (ab_ ?_)
   simp -dsimp[sgC]
 ·obtain rfl:i=R.length:=by omega
  rw[List.take_length] at hon
  rw[onR,if_pos hon]
  refine cF (by simp) ?_
  refine WP.exit ?_
  simp -dsimp
  refine sG ?_
  refine WP.ret (aj_ (Wk.freeze (k:=500) (T:=82) (sz:=61) (n:=R.length) (ds:=sgC (onL seed m R)) (by simp)) ?_)
  simp -dsimp[cm_]
abbrev Ez_ (s:List By) (left:Int) (st:Bool):Bxs:=[(2,.cells 28 ((dkC ⟨s,[],left,st⟩).map .d)),(3,.cells 28 ((dkC ⟨s,[],left,st⟩).map .d))]
abbrev sdkS (s:List By) (left:Int) (st:Bool) (i:Nat):St:=mkS 94 [(2,.ptr 2 0),(3,.ptr 3 0),(5,.d (.v (.int .i64 i)))] (Ez_ s left st)
set_option maxRecDepth 10000 in
set_option maxHeartbeats 1000000 in
theorem s2_ (s:List By) (left:Int) (st:Bool) (hl:s.length≤1000000000000):Fn0 Tryz.prog 45 [dkD ⟨s,[],left,st⟩,dkD ⟨s,[],left,st⟩] (.v (.bool true)):=by
 have la:=aZ_ s
 refine ad_ (pn:=an_) ac_ Tryz.func45 rfl fun β0=>?_
 simp only[Tryz.f45]
 repeat(first|apply wG|(apply wR;simp -dsimp[dkD,dkC])|refine aI ?_)
 refine cF (by simp) ?_
 refine WP.skip ?_
 simp -dsimp
 refine sG ?_
 refine ai_ (fun q S=>∃ i:Nat,q=s.length-i∧i≤s.length∧S=sdkS s left st i) s.length (S0:=sdkS s left st 0) (af_ [] (by simp) (by simp[dkC])) ⟨0,rfl,by omega,rfl⟩ ?_
 rintro _ _ ⟨i,rfl,hi,rfl⟩
 simp -dsimp[dkC]
 repeat(first|apply wG|(apply wR;simp -dsimp[dkC])|refine aI ?_)
 by_cases hin:i<s.length
 ·have e1:IntKind.i64.wrap ((i:Int)+1)=((i+1:Nat):Int):=by rw[IntWalk.i64_in _ (by omega)];omega
  refine cT (by simp;omega) ?_
  refine WP.skip ?_
  simp -dsimp
  repeat(first|apply wG|(apply wR;simp -dsimp[au_,la,hin,dkC])|refine aI ?_)
  refine cF (by simp) ?_
  refine WP.skip ?_
  simp -dsimp
  refine sG ?_
  refine loopW.next (sdkS s left st (i+1)) (af_ [] (by simp[e1]) (by simp[dkC])) (s.length-(i+1)) (by omega) ⟨i+1,rfl,by omega,rfl⟩
 ·obtain rfl:i=s.length:=by omega
  refine cF (by simp) ?_
  refine WP.exit ?_
  simp -dsimp
  refine sG ?_
  refine ai_ (fun q S=>S=mkS 94 [(2,.ptr 2 0),(3,.ptr 3 0),(6,.d (.v (.int .i64 0)))] (Ez_ s left st)) 0 (S0:=mkS 94 [(2,.ptr 2 0),(3,.ptr 3 0),(6,.d (.v (.int .i64 0)))] (Ez_ s left st)) (af_ [] (by simp) (by simp[dkC])) rfl ?_
  rintro _ _ rfl
  simp -dsimp[dkC]
  repeat(first|apply wG|(apply wR;simp -dsimp[dkC])|refine aI ?_)
  refine cF (by simp) ?_
  refine WP.exit ?_
  simp -dsimp
  refine sG ?_
  refine WP.ret (ab_ ?_)
  simp -dsimp
abbrev ssS (l:List Sg) (i:Nat):St:=mkS 27 [(0,.d (sgD l false)),(1,.d (sgD l false)),(5,.d (.v (.int .i64 i)))] []
set_option maxRecDepth 10000 in
set_option maxHeartbeats 1000000 in
theorem j0_ (l:List Sg) (hl:l.length≤1000000000000) (ho:∀ p∈l,dN_ p∧sgT p):Fn0 Tryz.prog 25 [sgD l false,sgD l false] (.v (.bool true)):=by
 have la:=sgC_len (l:=l) fun p h=>(ho p h).1
 refine ad_ (pn:=an_) ac_ Tryz.func25 rfl fun β0=>?_
 simp only[Tryz.f25]
 refine sG ?_
 refine cF (by simp) ?_
 refine WP.skip ?_
 simp -dsimp
 refine sG ?_
 refine ai_ (fun q S=>∃ i:Nat,q=l.length-i∧i≤l.length∧S=ssS l i) l.length (S0:=ssS l 0) (af_ [] (by simp) (by simp)) ⟨0,rfl,by omega,rfl⟩ ?_
 rintro _ _ ⟨i,rfl,hi,rfl⟩
 simp -dsimp
 refine sG ?_
 by_cases hin:i<l.length
 ·have e1:IntKind.i64.wrap ((i:Int)+1)=((i+1:Nat):Int):=by rw[IntWalk.i64_in _ (by omega)];omega
  obtain⟨o1,t1⟩:=ho _ (List.getElem_mem hin)
  obtain⟨r,k28,hr⟩:=ry_ l[i] l[i] o1 o1 t1 t1
  rw[hr rfl] at k28
  have aa:=jX_ hin fun p h=>(ho p h).1
  generalize l[i]=x at *
  have tx:=ii_ o1
  have lx:=bu_ o1
  have tt:=yt_ o1
  have ox:=eU_ o1
  refine cT (by simp;omega) ?_
  refine WP.skip ?_
  simp -dsimp
  repeat(first|apply wG|(apply wR;simp -dsimp[aa,la,hin,tx,lx,tt])|refine aI ?_)
  refine ao_ jt_ k28 rfl rfl (And.intro (by simp[sgV,tx,tt]) (And.intro (by simp[sgV,tx,tt]) trivial)) ?_
  simp -dsimp
  repeat refine aI ?_
  refine cF (by simp) ?_
  refine WP.skip ?_
  simp -dsimp
  refine sG ?_
  refine loopW.next (ssS l (i+1)) (af_ [] (by simp[e1]) (by simp)) (l.length-(i+1)) (by omega) ⟨i+1,rfl,by omega,rfl⟩
 ·obtain rfl:i=l.length:=by omega
  refine cF (by simp) ?_
  refine WP.exit ?_
  simp -dsimp
  refine sG ?_
  refine WP.ret (ab_ ?_)
  simp -dsimp
set_option maxRecDepth 10000 in
set_option maxHeartbeats 1000000 in
theorem ft_ (r:Rm) (h:rmOk r) (hp:r.dk.p=[]):Fn0 Tryz.prog 14 [rmD r,rmD r] (.v (.bool true)):=by
 have h44:=rA_ r.seed r.many r.used
 have h45:=s2_ r.dk.s r.dk.left r.dk.st h.dk.ns
 have h26:=rz_ r.lm r.lr r.ls h.lr
 have h25:=j0_ r.fs h.fl h.fo
 refine ad_ (pn:=an_) ac_ Tryz.func14 rfl fun β0=>?_
 simp only[Tryz.f14]
 repeat(first|apply wG|(apply wR;simp -dsimp[rmD,rmC,hp])|refine aI ?_)
 refine ae_ pR_ (fun _=>h44) rfl (fun _=>rfl) (fun _=>by simp[keyD,slB]) ?_
 simp -dsimp
 refine sG ?_
 refine ae_ pQ_ (fun _=>h45) rfl (fun _=>rfl) (fun _=>by simp[dkD,dkC]) ?_
 simp -dsimp
 refine sG ?_
 refine ae_ ju_ (fun _=>h26) rfl (fun _=>rfl) (fun _=>by simp[logD,lgC]) ?_
 simp -dsimp
 refine sG ?_
 refine cF (by simp) ?_
 refine WP.skip ?_
 simp -dsimp
 refine sG ?_
 refine aa_ jv_ h25 rfl rfl (by simp) ?_
 simp -dsimp
 refine sG ?_
 refine WP.ret (ab_ ?_)
 simp -dsimp
theorem tY_ (m k:Int):Fun Tryz.prog 12 [.d (.v (.int .i64 2)),.agg [.row 1000,.d (.v (.int .i64 m)),.d (.v (.int .i64 0))],.d (.v (.int .i64 k))] [(1000,.row 5 1 1 [.d (.v (.int .u8 1))])] (.d (rmT (lV_ 2 [1] m 0 k))) [] fun _=>False:=by
 have h12:=hR_ 2 [1] (by decide) m 0 k
 have h12':Fun Tryz.prog 12 [.d (.v (.int .i64 2)),.agg [.d (slB [1]),.d (.v (.int .i64 m)),.d (.v (.int .i64 0))],.d (.v (.int .i64 k))] [] (.d (rmT (lV_ 2 [1] m 0 k))) [] fun _=>False :=
  rf_ h12 (And.intro (.refl _) (And.intro (al_ [slB [1],.v (.int .i64 m),.v (.int .i64 0)]) (And.intro (.refl _) trivial)))
 exact bo_ 1000 (T:=5) (cs:=bys [1]) h12' rfl rfl trivial
set_option maxRecDepth 10000 in
theorem vK_ (m k:Int):Fn0 Tryz.prog 31 [.v (.int .i64 m),.v (.int .i64 k)] (rmT (lV_ 2 [1] m 0 k)):=by
 have h12:=hR_ 2 [1] (by decide) m 0 k
 refine ad_ (pn:=an_) ac_ Tryz.func31 rfl fun β0=>?_
 simp only[Tryz.f31]
 refine sG ?_
 refine vcStop.call fi_ (tY_ m k) (rl [(1000,6)]) rfl rfl (by simp[BoxLeq]) aGq (fun _ h=>h.elim) (fun ⟨_,h⟩=>h.elim) (fun ⟨_,h⟩=>h.elim) (by simp[BoxLeq]) ?_
 simp -dsimp[rmT,rmD,rmC]
 refine sG ?_
 refine WP.ret (ab_ ?_)
 simp -dsimp[rmT,rmD,rmC]
theorem iH_ {crew:Int} {seed:By} {m:Int} {s:List By} {left sent:Int} (h:okR crew seed m s left sent) (hsd:seed.length≤1000):rmOk (mkR crew seed m s left sent):=by
 have hkk:=a0_.1 h.key
 have hus:=dY_ h.h128
 have hsm:=b2_ h.h128 h.n2
 have hn2:=h.n2
 have c0:=h.c0
 have c1:=h.c1
 have l1:=h.l1
 have l2:=h.l2
 have lG:=cm_ seed m (recs s)
 exact⟨by simp[isI,mkR];omega,by simp[isI,mkR];omega,by simp[isI,mkR];omega,⟨by simp only[mkR];omega,Nat.zero_le _,by simp[isI,mkR];omega⟩,hsd,by simp only[mkR];omega,by simp only[mkR,lG];omega,qx_ (seed:=seed) h.on hkk.2.2.2.1 (fun b hb=>by have:=hsm b hb;omega)⟩
theorem iG_ {crew:Int} {seed:By} {m:Int} {s:List By} {left sent:Int} (h:okR crew seed m s left sent):rmB (mkR crew seed m s left sent)=true :=
 wi_ h fun b hb=>by have:=b2_ h.h128 h.n2 b hb;omega
def q0:Rm:=mkR 2 [1] 1 (zeS 2) (-1) 0
def qF:Nat→Int:=ownF 2 0 (shF 0 9 5)
def qS:List By:=perf (zeS 2) (wrI (wrR (zeS 2) (encF qF)))
def q1:Rm:=mkR 2 [1] 1 qS (-1) 0
def q2:Rm:=mkR 2 [1] 1 qS (-1) 1
theorem yK_:(numF qF).2=true:=by kernel_rfl
theorem AR_:(numF (ownF 2 1 (shF 0 9 6))).2=true:=by kernel_rfl
theorem AS_:(numF (ownF 2 0 f0)).2=false:=by kernel_rfl
theorem AT_:secs (encF qF).length=1:=by decide +kernel
theorem AU_:gnr (zeS 2)=1:=by decide +kernel
theorem yM_:fOk qF:=tJ_ (zd_ _ _ _ (by decide) (by decide) (by decide) (by decide) (by decide) (by decide)) (by unfold isI;decide) (by decide)
theorem rQ_:okR 2 [1] 1 (zeS 2) (-1) 0:=tX_ (by decide) (by decide) (by decide) (by decide) (by decide)
theorem o5_:okR 2 [1] 1 qS (-1) 0∧recs qS=[encF qF]:=by
 have h:=tq_ (g:=qF) rQ_ yM_ yK_ rfl (by rw[bq_];rfl) (by rw[bq_];decide) (by rw[bq_,AT_];decide) (by rw[AU_];decide) (fun h=>absurd h.1 (by decide))
 rw[bq_] at h
 exact h
theorem yN_:okR 2 [1] 1 qS (-1) 1:=by
 obtain⟨h,e⟩:=o5_
 exact⟨h.c0,h.c1,h.key,h.n1,h.n2,h.l1,h.l2,h.h128,h.on,by decide,by rw[e];decide⟩
theorem EE_:lV_ 2 [1] 1 0 2=(q0,0):=by
 rw[lV_,if_pos (by decide),if_pos (by decide),if_pos (by decide)];rfl
theorem yL_:lV_ 32 [1] 1 0 9=(zeR,440):=by rw[lV_,if_neg (by decide)]
theorem ED_:xy_ q0 (shF 0 9 5)=(q1,0):=by
 rw[xy_,q0,if_pos (iG_ rQ_)]
 show o1_ 2 [1] 1 (zeS 2) (-1) 0 (ownF 2 (recs (zeS 2)).length (shF 0 9 5))=_
 rw[bq_]
 show o1_ 2 [1] 1 (zeS 2) (-1) 0 qF=_
 rw[o1_,if_pos yK_,if_pos (by rw[bq_];decide),if_pos (by rw[bq_,AT_];decide),if_pos (by rw[AU_];decide),if_neg (fun h=>absurd h.1 (by decide))]
 rfl
theorem AP_:xy_ q1 (shF 0 9 6)=(zeR,40):=by
 rw[xy_,q1,if_pos (iG_ o5_.1)]
 show o1_ 2 [1] 1 qS (-1) 0 (ownF 2 (recs qS).length (shF 0 9 6))=_
 rw[o5_.2]
 show o1_ 2 [1] 1 qS (-1) 0 (ownF 2 1 (shF 0 9 6))=_
 rw[o1_,if_pos AR_,o5_.2,if_neg (by decide)]
theorem AQ_:xy_ q0 f0=(zeR,120):=by
 rw[xy_,q0,if_pos (iG_ rQ_)]
 show o1_ 2 [1] 1 (zeS 2) (-1) 0 (ownF 2 (recs (zeS 2)).length f0)=_
 rw[bq_]
 show o1_ 2 [1] 1 (zeS 2) (-1) 0 (ownF 2 0 f0)=_
 rw[o1_,if_neg (by rw[AS_];decide)]
theorem A0_:rmB q0=true:=iG_ rQ_
theorem xC_:rmB q1=true:=iG_ o5_.1
theorem AZ_:rmB q2=true:=iG_ yN_
theorem EH_:q0.fs=[]:=by
 show onL [1] 1 (recs (zeS 2))=_
 rw[bq_];rfl
theorem tz_:q1.fs=[sgQ [1] 1 qF]:=by
 show onL [1] 1 (recs qS)=_
 rw[o5_.2,onL,List.map_cons,List.map_nil,gH_ yM_ yK_]
theorem AW_:sm_ q0 1=(zeR,440):=by
 rw[sm_,if_pos A0_,if_neg]
 rw[EH_];decide
theorem AV_:sm_ q1 1=(q2,0):=by
 rw[sm_,if_pos xC_,if_pos]
 ·rfl
 ·rw[tz_];decide
theorem AY_:os_ q1=([sgQ [1] 1 qF],0):=by
 rw[os_,if_pos xC_,tz_];rfl
theorem AX_:os_ q2=([],0):=by
 have:q2.fs=[sgQ [1] 1 qF]:=tz_
 rw[os_,if_pos AZ_,this];rfl
theorem AN_ {crew:Int} {seed:By} {m:Int} {s:List By} {left sent:Int} (ho:okR crew seed m s left sent):qe_ (mkR crew seed m s left sent)=(mkR crew seed m s (-1) 0,0):=by
 have hk:=a0_.1 ho.key
 have k0:keyV seed m 0=true:=a0_.2 ⟨hk.1,hk.2.1,hk.2.2.1,hk.2.2.2.1,Int.le_refl _,by omega⟩
 have hb:dkB ⟨s,[],-1,false⟩=true:=a1_.2 ⟨⟨ho.n1,ho.n2,Nat.zero_le _,by simp,by simp⟩,(fun _ h=>by cases h),ho.h128⟩
 unfold qe_
 exact (if_pos ⟨ho.c0,ho.c1⟩).trans ((if_pos k0).trans ((if_pos hb).trans (if_pos ho.on)))
theorem EC_:qe_ q2=(q1,0):=AN_ yN_
theorem EG_:ckR q0=0:=by rw[ckR,q0,iG_ rQ_];rfl
theorem EF_:ckR zeR=440:=by
 have:rmB zeR=false:=by simp[rmB,zeR,keyV]
 rw[ckR,this];rfl
theorem Cg_ {r:Rm} (h:rmB r=false):ckR r=440:=by rw[ckR,h];rfl
theorem zO_ {r:Rm} (h:rmB r=true):ckR r=0:=by rw[ckR,h];rfl
end Go.Proofs.YtfgcgagcpnbgmaaGreatDoor
