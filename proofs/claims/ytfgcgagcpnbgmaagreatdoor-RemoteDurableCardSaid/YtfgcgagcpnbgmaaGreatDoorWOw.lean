/-
  Joined texts.
-/
import Derived.Test.YtfgcgagcpnbgmaaGreatDoorWOj
import Derived.Test.YtfgcgagcpnbgmaaGreatDoorWUd
import Derived.Test.YtfgcgagcpnbgmaaGreatDoorW4
import Derived.Test.YtfgcgagcpnbgmaaGreatDoorCards
import Derived.Test.YtfgcgagcpnbgmaaGreatDoorTie
import Derived.SevenTiedAt
import Derived.Stop.Joined
import Derived.Test.YtfgcgagcpnbgmaaGreatDoorWXa
set_option maxRecDepth 10000
set_option linter.unusedVariables false
set_option linter.unusedSimpArgs false
set_option linter.unusedSectionVars false
namespace Go.Proofs.YtfgcgagcpnbgmaaGreatDoor
open Go.Xe Go.RowKit
def wr_ (r:Rm):List Sg×Int:=if rmB r=true then (r.fs.drop r.sent.toNat,0) else ([],440)
def yx_ (r:Rm) (n:Int):Rm×Int:=if rmB r=true then if r.sent≤n∧n≤r.fs.length then ({ r with sent:=n },0) else (zeR,440) else (zeR,440)
theorem uu_ {r:Rm} (h:rmB r=true):0≤r.sent∧r.sent≤r.fs.length:=by
 simp only[rmB,Bool.and_eq_true,decide_eq_true_eq] at h
 exact⟨h.1.2.2.2.1,h.1.2.2.2.2⟩
set_option maxHeartbeats 2000000 in
theorem jX_ (r:Rm) (h:rmOk r) (hn:r.fs.length≤1000000):Fn0 Tryz.prog 19 [rmD r] (.tup [sgD (wr_ r).1 false,.v (.int .i64 (wr_ r).2)]):=by
 have h15:=b9_ r h
 unfold wr_
 unfold ckR at h15
 cases hv:rmB r with
 | true =>
  rw[hv,if_pos rfl] at h15
  rw[if_pos rfl]
  obtain⟨s0,s1⟩:=uu_ hv
  obtain⟨k,hk⟩:∃ k:Nat,r.sent=k:=⟨r.sent.toNat,by omega⟩
  rw[hk,Int.toNat_natCast]
  have hkl:k≤r.fs.length:=by omega
  have hd:=(oL_ (fun q hq=>(h.fo q hq).1) hkl).2
  have lC:=sgC_len (l:=r.fs) fun q hq=>(h.fo q hq).1
  have hcl:=lR_ (r.fs.drop k) (by rw[List.length_drop];omega) (fun p hp=>(h.fo p (List.mem_of_mem_drop hp)).1)
  rw[List.length_drop] at hcl
  have lD:=sgC_len (l:=r.fs.drop k) fun q hq=>(h.fo q (List.mem_of_mem_drop hq)).1
  rw[List.length_drop] at lD
  have ht:List.take ((r.fs.length-k)*61) (sgC (r.fs.drop k))=sgC (r.fs.drop k):=List.take_of_length_le (by omega)
  refine ad_ (pn:=ap_) aa_ Tryz.func19 rfl fun β0=>?_
  simp only[Tryz.f19]
  repeat(first|apply wG|(apply wR;simp -dsimp[rmD,rmC,hk])|refine aI ?_)
  refine ab_ a4_ h15 rfl rfl (by simp[rmD,rmC,hk]) ?_
  simp -dsimp
  repeat(first|apply wG|(apply wR;simp -dsimp)|refine aI ?_)
  refine cF (by simp) ?_
  refine WP.skip ?_
  simp -dsimp
  repeat(first|apply wG|(apply wR;simp -dsimp[hd,ht,hkl])|refine aI ?_)
  refine ab_ c6_ hcl rfl rfl (by simp[hd,ht]) ?_
  simp -dsimp
  repeat(first|apply wG|(apply wR;simp -dsimp)|refine aI ?_)
  refine WP.ret (ac_ ?_)
  simp -dsimp
 | false =>
  rw[hv,if_neg (by decide)] at h15
  rw[if_neg (by decide)]
  refine ad_ (pn:=ap_) aa_ Tryz.func19 rfl fun β0=>?_
  simp only[Tryz.f19]
  repeat(first|apply wG|(apply wR;simp -dsimp[rmD,rmC])|refine aI ?_)
  refine ab_ a4_ h15 rfl rfl (by simp[rmD,rmC]) ?_
  simp -dsimp
  repeat(first|apply wG|(apply wR;simp -dsimp)|refine aI ?_)
  refine cT (by simp) ?_
  repeat(first|apply wG|(apply wR;simp -dsimp)|refine aI ?_)
  refine WP.ret (ac_ ?_)
  simp -dsimp[sgC]
set_option maxHeartbeats 2000000 in
theorem oP_ (r:Rm) (h:rmOk r) (n:Int):Fn0 Tryz.prog 21 [rmD r,.v (.int .i64 n)] (rmT (yx_ r n)):=by
 have h15:=b9_ r h
 unfold yx_
 unfold ckR at h15
 cases hv:rmB r with
 | true =>
  rw[hv,if_pos rfl] at h15
  rw[if_pos rfl]
  refine ad_ (pn:=ap_) aa_ Tryz.func21 rfl fun β0=>?_
  simp only[Tryz.f21]
  repeat(first|apply wG|(apply wR;simp -dsimp[rmD,rmC])|refine aI ?_)
  refine ab_ a4_ h15 rfl rfl (by simp[rmD,rmC]) ?_
  simp -dsimp
  repeat(first|apply wG|(apply wR;simp -dsimp)|refine aI ?_)
  refine cF (by simp) ?_
  refine WP.skip ?_
  simp -dsimp
  repeat(first|apply wG|(apply wR;simp -dsimp)|refine aI ?_)
  by_cases hc:r.sent≤n∧n≤r.fs.length
  ·rw[if_pos hc]
   refine cF (by simp;omega) ?_
   refine WP.skip ?_
   simp -dsimp
   repeat(first|apply wG|(apply wR;simp -dsimp)|refine aI ?_)
   refine WP.ret (ac_ ?_)
   simp -dsimp[rmT,rmD,rmC]
  ·rw[if_neg hc]
   refine cT (by simp;omega) ?_
   repeat(first|apply wG|(apply wR;simp -dsimp)|refine aI ?_)
   refine WP.ret (ac_ ?_)
   simp -dsimp[rmT,rmD_ze]
 | false =>
  rw[hv,if_neg (by decide)] at h15
  rw[if_neg (by decide)]
  refine ad_ (pn:=ap_) aa_ Tryz.func21 rfl fun β0=>?_
  simp only[Tryz.f21]
  repeat(first|apply wG|(apply wR;simp -dsimp[rmD,rmC])|refine aI ?_)
  refine ab_ a4_ h15 rfl rfl (by simp[rmD,rmC]) ?_
  simp -dsimp
  repeat(first|apply wG|(apply wR;simp -dsimp)|refine aI ?_)
  refine cT (by simp) ?_
  repeat(first|apply wG|(apply wR;simp -dsimp)|refine aI ?_)
  refine WP.ret (ac_ ?_)
  simp -dsimp[rmT,rmD_ze]
end Go.Proofs.YtfgcgagcpnbgmaaGreatDoor
set_option maxRecDepth 10000
set_option linter.unusedVariables false
set_option linter.unusedSimpArgs false
set_option linter.unusedSectionVars false
namespace Go.Proofs.YtfgcgagcpnbgmaaGreatDoor
open Go.Xe Go.RowKit
theorem qi_ (seed:By) (m u:Int):Fn0 Tryz.prog 44 [keyD seed m u,keyD seed m u] (.v (.bool true)):=by
 refine ad_ (pn:=ap_) aa_ Tryz.func44 rfl fun β0=>?_
 simp only[Tryz.f44]
 repeat(first|apply wG|(apply wR;simp -dsimp[keyD,slB])|refine aI ?_)
 refine WP.ret (ac_ ?_)
 simp -dsimp
abbrev srS (l:List By) (i:Nat):St:=mkS 28 [(0,.d (slLB l)),(1,.d (slLB l)),(5,.d (.v (.int .i64 i)))] []
set_option maxHeartbeats 1000000 in
theorem nj_ (l:List By) (hl:l.length≤1000000000000):Fn0 Tryz.prog 67 [slLB l,slLB l] (.v (.bool true)):=by
 have la:=bo_ l
 refine ad_ (pn:=ap_) aa_ Tryz.func67 rfl fun β0=>?_
 simp only[Tryz.f67]
 repeat(first|apply wG|(apply wR;simp -dsimp)|refine aI ?_)
 refine cF (by simp) ?_
 refine WP.skip ?_
 simp -dsimp
 repeat(first|apply wG|(apply wR;simp -dsimp)|refine aI ?_)
 refine ai_ (fun q S=>∃ i:Nat,q=l.length-i∧i≤l.length∧S=srS l i) l.length (S0:=srS l 0) (ae_ [] (by simp) (by simp)) ⟨0,rfl,by omega,rfl⟩ ?_
 rintro _ _ ⟨i,rfl,hi,rfl⟩
 simp -dsimp
 repeat(first|apply wG|(apply wR;simp -dsimp)|refine aI ?_)
 by_cases hin:i<l.length
 ·have e1:IntKind.i64.wrap ((i:Int)+1)=((i+1:Nat):Int):=by rw[IntWalk.i64_in _ (by omega)];omega
  refine cT (by simp;omega) ?_
  refine WP.skip ?_
  simp -dsimp
  repeat(first|apply wG|(apply wR;simp -dsimp[av_,la,hin])|refine aI ?_)
  refine cF (by simp) ?_
  refine WP.skip ?_
  simp -dsimp
  repeat(first|apply wG|(apply wR;simp -dsimp)|refine aI ?_)
  refine loopW.next (srS l (i+1)) (ae_ [] (by simp[e1]) (by simp)) (l.length-(i+1)) (by omega) ⟨i+1,rfl,by omega,rfl⟩
 ·obtain rfl:i=l.length:=by omega
  refine cF (by simp) ?_
  refine WP.exit ?_
  simp -dsimp
  repeat(first|apply wG|(apply wR;simp -dsimp)|refine aI ?_)
  refine WP.ret (ac_ ?_)
  simp -dsimp
theorem qh_ (M:Int) (l:List By) (Y:Int) (hl:l.length≤1000000000000):Fn0 Tryz.prog 26 [logD M l Y,logD M l Y] (.v (.bool true)):=by
 have h67:=nj_ l hl
 refine ad_ (pn:=ap_) aa_ Tryz.func26 rfl fun β0=>?_
 simp only[Tryz.f26]
 repeat(first|apply wG|(apply wR;simp -dsimp[logD,lgC])|refine aI ?_)
 refine aj_ ob_ (fun _=>h67) rfl (fun _=>rfl) (fun _=>by simp) ?_
 simp -dsimp
 repeat(first|apply wG|(apply wR;simp -dsimp)|refine aI ?_)
 refine WP.ret (ac_ ?_)
 simp -dsimp
end Go.Proofs.YtfgcgagcpnbgmaaGreatDoor
set_option linter.unusedVariables false
set_option linter.unusedSimpArgs false
set_option linter.unusedSectionVars false
namespace Go.Proofs.YtfgcgagcpnbgmaaGreatDoor
open Go.Xe Go.RowKit
abbrev CZ_ (s:List By) (left:Int) (st:Bool):Bxs:=[(2,.cells 28 ((dkC ⟨s,[],left,st⟩).map .d)),(3,.cells 28 ((dkC ⟨s,[],left,st⟩).map .d))]
abbrev sdkS (s:List By) (left:Int) (st:Bool) (i:Nat):St:=mkS 94 [(2,.ptr 2 0),(3,.ptr 3 0),(5,.d (.v (.int .i64 i)))] (CZ_ s left st)
set_option maxRecDepth 10000 in
set_option maxHeartbeats 1000000 in
theorem rS_ (s:List By) (left:Int) (st:Bool) (hl:s.length≤1000000000000):Fn0 Tryz.prog 45 [dkD ⟨s,[],left,st⟩,dkD ⟨s,[],left,st⟩] (.v (.bool true)):=by
 have la:=bo_ s
 refine ad_ (pn:=ap_) aa_ Tryz.func45 rfl fun β0=>?_
 simp only[Tryz.f45]
 repeat(first|apply wG|(apply wR;simp -dsimp[dkD,dkC])|refine aI ?_)
 refine cF (by simp) ?_
 refine WP.skip ?_
 simp -dsimp
 repeat(first|apply wG|(apply wR;simp -dsimp)|refine aI ?_)
 refine ai_ (fun q S=>∃ i:Nat,q=s.length-i∧i≤s.length∧S=sdkS s left st i) s.length (S0:=sdkS s left st 0) (ae_ [] (by simp) (by simp[dkC])) ⟨0,rfl,by omega,rfl⟩ ?_
 rintro _ _ ⟨i,rfl,hi,rfl⟩
 simp -dsimp[dkC]
 repeat(first|apply wG|(apply wR;simp -dsimp[dkC])|refine aI ?_)
 by_cases hin:i<s.length
 ·have e1:IntKind.i64.wrap ((i:Int)+1)=((i+1:Nat):Int):=by rw[IntWalk.i64_in _ (by omega)];omega
  refine cT (by simp;omega) ?_
  refine WP.skip ?_
  simp -dsimp
  repeat(first|apply wG|(apply wR;simp -dsimp[av_,la,hin,dkC])|refine aI ?_)
  refine cF (by simp) ?_
  refine WP.skip ?_
  simp -dsimp
  repeat(first|apply wG|(apply wR;simp -dsimp)|refine aI ?_)
  refine loopW.next (sdkS s left st (i+1)) (ae_ [] (by simp[e1]) (by simp[dkC])) (s.length-(i+1)) (by omega) ⟨i+1,rfl,by omega,rfl⟩
 ·obtain rfl:i=s.length:=by omega
  refine cF (by simp) ?_
  refine WP.exit ?_
  simp -dsimp
  repeat(first|apply wG|(apply wR;simp -dsimp)|refine aI ?_)
  refine ai_ (fun q S=>S=mkS 94 [(2,.ptr 2 0),(3,.ptr 3 0),(6,.d (.v (.int .i64 0)))] (CZ_ s left st)) 0 (S0:=mkS 94 [(2,.ptr 2 0),(3,.ptr 3 0),(6,.d (.v (.int .i64 0)))] (CZ_ s left st)) (ae_ [] (by simp) (by simp[dkC])) rfl ?_
  rintro _ _ rfl
  simp -dsimp[dkC]
  repeat(first|apply wG|(apply wR;simp -dsimp[dkC])|refine aI ?_)
  refine cF (by simp) ?_
  refine WP.exit ?_
  simp -dsimp
  repeat(first|apply wG|(apply wR;simp -dsimp)|refine aI ?_)
  refine WP.ret (ac_ ?_)
  simp -dsimp
end Go.Proofs.YtfgcgagcpnbgmaaGreatDoor
set_option linter.unusedVariables false
set_option linter.unusedSimpArgs false
set_option linter.unusedSectionVars false
namespace Go.Proofs.YtfgcgagcpnbgmaaGreatDoor
open Go.Xe Go.RowKit
abbrev ssS (l:List Sg) (i:Nat):St:=mkS 27 [(0,.d (sgD l false)),(1,.d (sgD l false)),(5,.d (.v (.int .i64 i)))] []
set_option maxRecDepth 10000 in
set_option maxHeartbeats 1000000 in
theorem qf_ (l:List Sg) (hl:l.length≤1000000000000) (ho:∀ p∈l,b2_ p∧sgT p):Fn0 Tryz.prog 25 [sgD l false,sgD l false] (.v (.bool true)):=by
 have la:=sgC_len (l:=l) fun p h=>(ho p h).1
 refine ad_ (pn:=ap_) aa_ Tryz.func25 rfl fun β0=>?_
 simp only[Tryz.f25]
 repeat(first|apply wG|(apply wR;simp -dsimp)|refine aI ?_)
 refine cF (by simp) ?_
 refine WP.skip ?_
 simp -dsimp
 repeat(first|apply wG|(apply wR;simp -dsimp)|refine aI ?_)
 refine ai_ (fun q S=>∃ i:Nat,q=l.length-i∧i≤l.length∧S=ssS l i) l.length (S0:=ssS l 0) (ae_ [] (by simp) (by simp)) ⟨0,rfl,by omega,rfl⟩ ?_
 rintro _ _ ⟨i,rfl,hi,rfl⟩
 simp -dsimp
 repeat(first|apply wG|(apply wR;simp -dsimp)|refine aI ?_)
 by_cases hin:i<l.length
 ·have e1:IntKind.i64.wrap ((i:Int)+1)=((i+1:Nat):Int):=by rw[IntWalk.i64_in _ (by omega)];omega
  obtain⟨o1,t1⟩:=ho _ (List.getElem_mem hin)
  obtain⟨r,k28,hr⟩:=qg_ l[i] l[i] o1 o1 t1 t1
  rw[hr rfl] at k28
  have aa:=d8_ hin fun p h=>(ho p h).1
  generalize l[i]=x at *
  have tx:=d7_ o1
  have lx:=aO_ o1
  have tt:=na_ o1
  have ox:=fl_ o1
  refine cT (by simp;omega) ?_
  refine WP.skip ?_
  simp -dsimp
  repeat(first|apply wG|(apply wR;simp -dsimp[aa,la,hin,tx,lx,tt])|refine aI ?_)
  refine al_ oq_ k28 rfl rfl (And.intro (by simp[sgV,tx,tt]) (And.intro (by simp[sgV,tx,tt]) trivial)) ?_
  simp -dsimp
  repeat refine aI ?_
  refine cF (by simp) ?_
  refine WP.skip ?_
  simp -dsimp
  repeat(first|apply wG|(apply wR;simp -dsimp)|refine aI ?_)
  refine loopW.next (ssS l (i+1)) (ae_ [] (by simp[e1]) (by simp)) (l.length-(i+1)) (by omega) ⟨i+1,rfl,by omega,rfl⟩
 ·obtain rfl:i=l.length:=by omega
  refine cF (by simp) ?_
  refine WP.exit ?_
  simp -dsimp
  repeat(first|apply wG|(apply wR;simp -dsimp)|refine aI ?_)
  refine WP.ret (ac_ ?_)
  simp -dsimp
end Go.Proofs.YtfgcgagcpnbgmaaGreatDoor
set_option linter.unusedVariables false
set_option linter.unusedSimpArgs false
set_option linter.unusedSectionVars false
namespace Go.Proofs.YtfgcgagcpnbgmaaGreatDoor
open Go.Xe Go.RowKit
set_option maxRecDepth 10000 in
set_option maxHeartbeats 1000000 in
theorem rR_ (r:Rm) (h:rmOk r) (hp:r.dk.p=[]):Fn0 Tryz.prog 14 [rmD r,rmD r] (.v (.bool true)):=by
 have h44:=qi_ r.seed r.many r.used
 have h45:=rS_ r.dk.s r.dk.left r.dk.st h.dk.ns
 have h26:=qh_ r.lm r.lr r.ls h.lr
 have h25:=qf_ r.fs h.fl h.fo
 refine ad_ (pn:=ap_) aa_ Tryz.func14 rfl fun β0=>?_
 simp only[Tryz.f14]
 repeat(first|apply wG|(apply wR;simp -dsimp[rmD,rmC,hp])|refine aI ?_)
 refine aj_ om_ (fun _=>h44) rfl (fun _=>rfl) (fun _=>by simp[keyD,slB]) ?_
 simp -dsimp
 repeat(first|apply wG|(apply wR;simp -dsimp)|refine aI ?_)
 refine aj_ ol_ (fun _=>h45) rfl (fun _=>rfl) (fun _=>by simp[dkD,dkC]) ?_
 simp -dsimp
 repeat(first|apply wG|(apply wR;simp -dsimp)|refine aI ?_)
 refine aj_ or_ (fun _=>h26) rfl (fun _=>rfl) (fun _=>by simp[logD,lgC]) ?_
 simp -dsimp
 repeat(first|apply wG|(apply wR;simp -dsimp)|refine aI ?_)
 refine cF (by simp) ?_
 refine WP.skip ?_
 simp -dsimp
 repeat(first|apply wG|(apply wR;simp -dsimp)|refine aI ?_)
 refine ab_ os_ h25 rfl rfl (by simp) ?_
 simp -dsimp
 repeat(first|apply wG|(apply wR;simp -dsimp)|refine aI ?_)
 refine WP.ret (ac_ ?_)
 simp -dsimp
end Go.Proofs.YtfgcgagcpnbgmaaGreatDoor
set_option linter.unusedVariables false
set_option linter.unusedSimpArgs false
set_option linter.unusedSectionVars false
namespace Go.Proofs.YtfgcgagcpnbgmaaGreatDoor
open Go.Xe Go.RowKit
theorem st_ (m k:Int):Fun Tryz.prog 12 [.d (.v (.int .i64 2)),.agg [.row 1000,.d (.v (.int .i64 m)),.d (.v (.int .i64 0))],.d (.v (.int .i64 k))] [(1000,.row 5 1 1 [.d (.v (.int .u8 1))])] (.d (rmT (qw_ 2 [1] m 0 k))) [] fun _=>False:=by
 have h12:=jW_ 2 [1] (by decide) m 0 k
 have h12':Fun Tryz.prog 12 [.d (.v (.int .i64 2)),.agg [.d (slB [1]),.d (.v (.int .i64 m)),.d (.v (.int .i64 0))],.d (.v (.int .i64 k))] [] (.d (rmT (qw_ 2 [1] m 0 k))) [] fun _=>False :=
  pX_ h12 (And.intro (.refl _) (And.intro (am_ [slB [1],.v (.int .i64 m),.v (.int .i64 0)]) (And.intro (.refl _) trivial)))
 exact b1_ 1000 (T:=5) (cs:=bys [1]) h12' rfl rfl trivial
set_option maxRecDepth 10000 in
theorem oE_ (m k:Int):Fn0 Tryz.prog 31 [.v (.int .i64 m),.v (.int .i64 k)] (rmT (qw_ 2 [1] m 0 k)):=by
 have h12:=jW_ 2 [1] (by decide) m 0 k
 refine ad_ (pn:=ap_) aa_ Tryz.func31 rfl fun β0=>?_
 simp only[Tryz.f31]
 repeat(first|apply wG|(apply wR;simp -dsimp)|refine aI ?_)
 refine vcStop.call iz_ (st_ m k) (rl [(1000,6)]) rfl rfl (by simp[BoxLeq]) (af_ (by simp[BoxLeq]) rfl (by first|rfl|(simp[BoxLeq];done)) (by simp[BoxLeq]) (by simp[BoxLeq])) (fun _ h=>h.elim) (fun ⟨_,h⟩=>h.elim) (fun ⟨_,h⟩=>h.elim) (by simp[BoxLeq]) ?_
 simp -dsimp[rmT,rmD,rmC]
 repeat(first|apply wG|(apply wR;simp -dsimp)|refine aI ?_)
 refine WP.ret (ac_ ?_)
 simp -dsimp[rmT,rmD,rmC]
end Go.Proofs.YtfgcgagcpnbgmaaGreatDoor
set_option linter.unusedVariables false
set_option linter.unusedSimpArgs false
set_option linter.unusedSectionVars false
namespace Go.Proofs.YtfgcgagcpnbgmaaGreatDoor
open Go.Xe Go.RowKit
theorem ki_ {crew:Int} {seed:By} {m:Int} {s:List By} {left sent:Int} (h:okR crew seed m s left sent) (hsd:seed.length≤1000):rmOk (mkR crew seed m s left sent):=by
 have hkk:=a8_.1 h.key
 have hus:=hM_ h.h128
 have hsm:=bA_ h.h128 h.n2
 have hn2:=h.n2
 have c0:=h.c0
 have c1:=h.c1
 have l1:=h.l1
 have l2:=h.l2
 have lG:=bn_ seed m (recs s)
 exact⟨by simp[isI,mkR];omega,by simp[isI,mkR];omega,by simp[isI,mkR];omega,⟨by simp only[mkR];omega,Nat.zero_le _,by simp[isI,mkR];omega⟩,hsd,by simp only[mkR];omega,by simp only[mkR,lG];omega,o9_ (seed:=seed) h.on hkk.2.2.2.1 (fun b hb=>by have:=hsm b hb;omega)⟩
theorem eY_ {crew:Int} {seed:By} {m:Int} {s:List By} {left sent:Int} (h:okR crew seed m s left sent):rmB (mkR crew seed m s left sent)=true :=
 uN_ h fun b hb=>by have:=bA_ h.h128 h.n2 b hb;omega
def q0:Rm:=mkR 2 [1] 1 (zeS 2) (-1) 0
def qF:Nat→Int:=ownF 2 0 (shF 0 9 5)
def qS:List By:=perf (zeS 2) (wrI (wrR (zeS 2) (encF qF)))
def q1:Rm:=mkR 2 [1] 1 qS (-1) 0
def q2:Rm:=mkR 2 [1] 1 qS (-1) 1
theorem w0_:(numF qF).2=true:=by kernel_rfl
theorem y5_:(numF (ownF 2 1 (shF 0 9 6))).2=true:=by kernel_rfl
theorem y6_:(numF (ownF 2 0 f0)).2=false:=by kernel_rfl
theorem y7_:secs (encF qF).length=1:=by decide +kernel
theorem y8_:gnr (zeS 2)=1:=by decide +kernel
theorem w2_:fOk qF:=j7_ (xl_ _ _ _ (by decide) (by decide) (by decide) (by decide) (by decide) (by decide)) (by unfold isI;decide) (by decide)
theorem qq_:okR 2 [1] 1 (zeS 2) (-1) 0:=ss_ (by decide) (by decide) (by decide) (by decide) (by decide)
theorem ns_:okR 2 [1] 1 qS (-1) 0∧recs qS=[encF qF]:=by
 have h:=no_ (g:=qF) qq_ w2_ w0_ rfl (by rw[aV_];rfl) (by rw[aV_];decide) (by rw[aV_,y7_];decide) (by rw[y8_];decide) (fun h=>absurd h.1 (by decide))
 rw[aV_] at h
 exact h
theorem w3_:okR 2 [1] 1 qS (-1) 1:=by
 obtain⟨h,e⟩:=ns_
 exact⟨h.c0,h.c1,h.key,h.n1,h.n2,h.l1,h.l2,h.h128,h.on,by decide,by rw[e];decide⟩
theorem C3_:qw_ 2 [1] 1 0 2=(q0,0):=by
 rw[qw_,if_pos (by decide),if_pos (by decide),if_pos (by decide)];rfl
theorem w1_:qw_ 32 [1] 1 0 9=(zeR,440):=by rw[qw_,if_neg (by decide)]
theorem C2_:oR_ q0 (shF 0 9 5)=(q1,0):=by
 rw[oR_,q0,if_pos (eY_ qq_)]
 show i6_ 2 [1] 1 (zeS 2) (-1) 0 (ownF 2 (recs (zeS 2)).length (shF 0 9 5))=_
 rw[aV_]
 show i6_ 2 [1] 1 (zeS 2) (-1) 0 qF=_
 rw[i6_,if_pos w0_,if_pos (by rw[aV_];decide),if_pos (by rw[aV_,y7_];decide),if_pos (by rw[y8_];decide),if_neg (fun h=>absurd h.1 (by decide))]
 rfl
theorem y3_:oR_ q1 (shF 0 9 6)=(zeR,40):=by
 rw[oR_,q1,if_pos (eY_ ns_.1)]
 show i6_ 2 [1] 1 qS (-1) 0 (ownF 2 (recs qS).length (shF 0 9 6))=_
 rw[ns_.2]
 show i6_ 2 [1] 1 qS (-1) 0 (ownF 2 1 (shF 0 9 6))=_
 rw[i6_,if_pos y5_,ns_.2,if_neg (by decide)]
theorem y4_:oR_ q0 f0=(zeR,120):=by
 rw[oR_,q0,if_pos (eY_ qq_)]
 show i6_ 2 [1] 1 (zeS 2) (-1) 0 (ownF 2 (recs (zeS 2)).length f0)=_
 rw[aV_]
 show i6_ 2 [1] 1 (zeS 2) (-1) 0 (ownF 2 0 f0)=_
 rw[i6_,if_neg (by rw[y6_];decide)]
theorem ze_:rmB q0=true:=eY_ qq_
theorem v5_:rmB q1=true:=eY_ ns_.1
theorem zd_:rmB q2=true:=eY_ w3_
theorem C6_:q0.fs=[]:=by
 show onL [1] 1 (recs (zeS 2))=_
 rw[aV_];rfl
theorem r3_:q1.fs=[sgQ [1] 1 qF]:=by
 show onL [1] 1 (recs qS)=_
 rw[ns_.2,onL,List.map_cons,List.map_nil,dS_ w2_ w0_]
theorem za_:yx_ q0 1=(zeR,440):=by
 rw[yx_,if_pos ze_,if_neg]
 rw[C6_];decide
theorem y9_:yx_ q1 1=(q2,0):=by
 rw[yx_,if_pos v5_,if_pos]
 ·rfl
 ·rw[r3_];decide
theorem zc_:wr_ q1=([sgQ [1] 1 qF],0):=by
 rw[wr_,if_pos v5_,r3_];rfl
theorem zb_:wr_ q2=([],0):=by
 have:q2.fs=[sgQ [1] 1 qF]:=r3_
 rw[wr_,if_pos zd_,this];rfl
theorem v1_ {crew:Int} {seed:By} {m:Int} {s:List By} {left sent:Int} (ho:okR crew seed m s left sent):v2_ (mkR crew seed m s left sent)=(mkR crew seed m s (-1) 0,0):=by
 have hk:=a8_.1 ho.key
 have k0:keyV seed m 0=true:=a8_.2 ⟨hk.1,hk.2.1,hk.2.2.1,hk.2.2.2.1,Int.le_refl _,by omega⟩
 have hb:dkB ⟨s,[],-1,false⟩=true:=bp_.2 ⟨⟨ho.n1,ho.n2,Nat.zero_le _,by simp,by simp⟩,(fun _ h=>by cases h),ho.h128⟩
 unfold v2_
 exact (if_pos ⟨ho.c0,ho.c1⟩).trans ((if_pos k0).trans ((if_pos hb).trans (if_pos ho.on)))
theorem C1_:v2_ q2=(q1,0):=v1_ w3_
theorem C5_:ckR q0=0:=by rw[ckR,q0,eY_ qq_];rfl
theorem C4_:ckR zeR=440:=by
 have:rmB zeR=false:=by simp[rmB,zeR,keyV]
 rw[ckR,this];rfl
end Go.Proofs.YtfgcgagcpnbgmaaGreatDoor
set_option linter.unusedVariables false
set_option linter.unusedSimpArgs false
set_option linter.unusedSectionVars false
namespace Go.Proofs.YtfgcgagcpnbgmaaGreatDoor
open Go.Xe Go.RowKit
theorem qv_ (c m k:Int):Fun Tryz.prog 12 [.d (.v (.int .i64 c)),.agg [.row 1000,.d (.v (.int .i64 m)),.d (.v (.int .i64 0))],.d (.v (.int .i64 k))] [(1000,.row 5 1 1 [.d (.v (.int .u8 1))])] (.d (rmT (qw_ c [1] m 0 k))) [] fun _=>False:=by
 have h12:=jW_ c [1] (by decide) m 0 k
 have h12':Fun Tryz.prog 12 [.d (.v (.int .i64 c)),.agg [.d (slB [1]),.d (.v (.int .i64 m)),.d (.v (.int .i64 0))],.d (.v (.int .i64 k))] [] (.d (rmT (qw_ c [1] m 0 k))) [] fun _=>False :=
  pX_ h12 (And.intro (.refl _) (And.intro (am_ [slB [1],.v (.int .i64 m),.v (.int .i64 0)]) (And.intro (.refl _) trivial)))
 exact b1_ 1000 (T:=5) (cs:=bys [1]) h12' rfl rfl trivial
theorem i2_ (t:Int):Fn0 Tryz.prog 35 [.v (.int .i64 t)] (fD (shF 0 9 t)):=by
 refine ad_ (pn:=ap_) aa_ Tryz.func35 rfl fun β0=>?_
 simp only[Tryz.f35]
 repeat(first|apply wG|(apply wR;simp -dsimp)|refine aI ?_)
 refine WP.ret (ac_ ?_)
 simp -dsimp
 exact am_ (fcs (shF 0 9 t) 0 57)
theorem yX_ (p:Sg) (l:List Sg):((sgC (p::l))[0]?).getD .any=.v (.int .i64 (p.1 0))∧((sgC (p::l))[1]?).getD .any=.v (.int .i64 (p.1 1)):=⟨rfl,rfl⟩
set_option maxRecDepth 10000 in
set_option maxHeartbeats 8000000 in
theorem rP_:Fn0 Tryz.prog 10 [] (.v (.bool true)):=by
 have h31:=oE_ 1 2
 rw[C3_] at h31
 have h12:=qv_ 32 1 9
 rw[w1_] at h12
 have k5:=i2_ 5
 have k6:=i2_ 6
 have o5:fOk (shF 0 9 5):=xl_ _ _ _ (by decide) (by decide) (by decide) (by decide) (by decide) (by decide)
 have o6:fOk (shF 0 9 6):=xl_ _ _ _ (by decide) (by decide) (by decide) (by decide) (by decide) (by decide)
 have r0:rmOk q0:=ki_ qq_ (by decide)
 have r1:rmOk q1:=ki_ ns_.1 (by decide)
 have r2:rmOk q2:=ki_ w3_ (by decide)
 have rz:rmOk zeR:=⟨by unfold isI;decide,by unfold isI;decide,by unfold isI;decide,⟨by decide,by decide,by unfold isI;decide⟩,by decide,by decide,by decide,fun _ h=>by cases h⟩
 have g0:=gV_ q0 r0 (shF 0 9 5) o5
 have g1:=gV_ q1 r1 (shF 0 9 6) o6
 have gz:=gV_ q0 r0 f0 xL_
 have c0:=oP_ q0 r0 1
 have c1:=oP_ q1 r1 1
 have b1:=jX_ q1 r1 (by rw[r3_];decide)
 have b2:=jX_ q2 r2 (by show q1.fs.length≤_;rw[r3_];decide)
 have s2:=jV_ q2 r2
 have x0:=b9_ q0 r0
 have xz:=b9_ zeR rz
 have sm:=rR_ q1 r1 rfl
 rw[C2_] at g0
 rw[y3_] at g1
 rw[y4_] at gz
 rw[za_] at c0
 rw[y9_] at c1
 rw[zc_] at b1
 rw[zb_] at b2
 rw[C1_] at s2
 rw[C5_] at x0
 rw[C4_] at xz
 have p0:(sgQ [1] 1 qF).1 0=2:=rfl
 have p1:(sgQ [1] 1 qF).1 1=1:=rfl
 have hso:b2_ (sgQ [1] 1 qF):=⟨w2_,rfl,fun d hd=>cP_ hd⟩
 generalize sgQ [1] 1 qF=p at *
 have lp:=sgC_len (l:=[p]) (fun q hq=>by rw[List.mem_singleton.1 hq];exact hso)
 have t01:=yX_ p []
 rw[p0,p1] at t01
 obtain⟨t0,t1⟩:=t01
 generalize q0=q0 at *
 generalize q1=q1 at *
 generalize q2=q2 at *
 refine ad_ (pn:=ap_) aa_ Tryz.func10 rfl fun β0=>?_
 simp only[Tryz.f10]
 repeat(first|apply wG|(apply wR;simp -dsimp)|refine aI ?_)
 refine ab_ iw_ h31 rfl rfl (by simp) ?_
 simp -dsimp[rmT,rmD,rmC]
 repeat(first|apply wG|(apply wR;simp -dsimp)|refine aI ?_)
 refine vcStop.call iz_ (h12) (rl [(1000,26)]) rfl rfl (by simp[BoxLeq]) (af_ (by simp[BoxLeq]) rfl (by first|rfl|(simp[BoxLeq];done)) (by simp[BoxLeq]) (by simp[BoxLeq])) (fun _ h=>h.elim) (fun ⟨_,h⟩=>h.elim) (fun ⟨_,h⟩=>h.elim) (by simp[BoxLeq]) ?_
 simp -dsimp[rmT,rmD_ze]
 repeat(first|apply wG|(apply wR;simp -dsimp)|refine aI ?_)
 refine ab_ iu_ k5 rfl rfl (by simp) ?_
 simp -dsimp
 repeat(first|apply wG|(apply wR;simp -dsimp)|refine aI ?_)
 refine ab_ c7_ g0 rfl rfl (by simp[rmD,rmC,fD]) ?_
 simp -dsimp[rmT,rmD,rmC]
 repeat(first|apply wG|(apply wR;simp -dsimp)|refine aI ?_)
 refine ab_ iu_ k6 rfl rfl (by simp) ?_
 simp -dsimp
 repeat(first|apply wG|(apply wR;simp -dsimp)|refine aI ?_)
 refine ab_ c7_ g1 rfl rfl (by simp[rmD,rmC,fD]) ?_
 simp -dsimp[rmT,rmD_ze]
 repeat(first|apply wG|(apply wR;simp -dsimp)|refine aI ?_)
 refine al_ c7_ gz rfl rfl (And.intro (by simp[rmD,rmC]) (And.intro (am_ (fcs f0 0 57)) trivial)) ?_
 simp -dsimp[rmT,rmD_ze]
 repeat(first|apply wG|(apply wR;simp -dsimp)|refine aI ?_)
 refine ab_ iy_ c0 rfl rfl (by simp[rmD,rmC]) ?_
 simp -dsimp[rmT,rmD_ze]
 repeat(first|apply wG|(apply wR;simp -dsimp)|refine aI ?_)
 refine ab_ iy_ c1 rfl rfl (by simp[rmD,rmC]) ?_
 simp -dsimp[rmT,rmD,rmC]
 repeat(first|apply wG|(apply wR;simp -dsimp)|refine aI ?_)
 refine ab_ eB_ b1 rfl rfl (by simp[rmD,rmC]) ?_
 simp -dsimp
 repeat(first|apply wG|(apply wR;simp -dsimp)|refine aI ?_)
 refine ab_ eB_ b2 rfl rfl (by simp[rmD,rmC]) ?_
 simp -dsimp
 repeat(first|apply wG|(apply wR;simp -dsimp)|refine aI ?_)
 refine ab_ eA_ s2 rfl rfl (by simp[rmD,rmC]) ?_
 simp -dsimp[rmT,rmD,rmC]
 repeat(first|apply wG|(apply wR;simp -dsimp)|refine aI ?_)
 refine cF (by simp) ?_
 refine WP.skip ?_
 simp -dsimp
 repeat(first|apply wG|(apply wR;simp -dsimp[lp,t0,t1,p0,p1,Nat.zero_add])|refine aI ?_)
 simp -dsimp[p0,p1,lp]
 refine And.intro (by simp[lp]) ?_
 simp -dsimp[t0,t1,p0,p1,lp]
 repeat refine aI ?_
 refine aj_ a4_ (fun _=>x0) rfl (fun _=>rfl) (fun _=>by simp[rmD,rmC]) ?_
 simp -dsimp
 repeat(first|apply wG|(apply wR;simp -dsimp)|refine aI ?_)
 refine br_ a4_ (fun _=>xz) rfl (fun _=>rfl) (fun _=>And.intro (by simp[rmD_ze]) trivial) ?_
 simp -dsimp
 repeat(first|apply wG|(apply wR;simp -dsimp)|refine aI ?_)
 refine aj_ ot_ (fun _=>sm) rfl (fun _=>rfl) (fun _=>by simp[rmD,rmC]) ?_
 simp -dsimp
 repeat(first|apply wG|(apply wR;simp -dsimp)|refine aI ?_)
 refine WP.ret (ac_ ?_)
 simp -dsimp
end Go.Proofs.YtfgcgagcpnbgmaaGreatDoor
set_option linter.unusedVariables false
set_option linter.unusedSimpArgs false
set_option linter.unusedSectionVars false
namespace Go.Proofs.YtfgcgagcpnbgmaaGreatDoor
open Go.Xe Go.RowKit
theorem x3_ {r:Rm} (h:rmB r=true):ckR r=0:=by rw[ckR,h];rfl
/-! ### Again -/
theorem wZ_ {crew:Int} {seed:By} {m:Int} {s:List By} {left sent:Int} (h:okR crew seed m s left sent) (f:Nat→Int):oR_ (mkR crew seed m s left sent) f=i6_ crew seed m s left sent (ownF crew (recs s).length f):=by
 rw[oR_,if_pos (eY_ h)];rfl
theorem wX_ {crew:Int} {seed:By} {m:Int} {s:List By} {left sent:Int} (h:okR crew seed m s left sent):okR crew seed m s (-1) 0 :=
 ⟨h.c0,h.c1,h.key,h.n1,h.n2,by decide,by decide,h.h128,h.on,by decide,by omega⟩
end Go.Proofs.YtfgcgagcpnbgmaaGreatDoor
set_option linter.unusedVariables false
set_option linter.unusedSimpArgs false
set_option linter.unusedSectionVars false
namespace Go.Proofs.YtfgcgagcpnbgmaaGreatDoor
open Go.Xe Go.RowKit
theorem vS_:ownKnob Tryz.prog.godebug=none:=by kernel_rfl
theorem l3_:laidOutB Tryz.prog=true:=by kernel_rfl
def By_:List TypeId:=[5,94,98]++FL
theorem vT_:gOk ag_ By_=true:=by decide
theorem sm_ {n:Nat} {ds:List D} (h:OkD ag_ n 4 ds):∃ b,ds=[.v (.bool b)]:=by
 cases n with
 | zero=>exact h.elim
 | succ n =>
  simp only[OkD,yk_] at h
  exact h
theorem xg_ {n:Nat} {ds:List D} (h:OkD ag_ n 5 ds):∃ c:UInt8,ds=[aN_ c]:=by
 cases n with
 | zero=>exact h.elim
 | succ n =>
  simp only[OkD,tL_] at h
  obtain⟨x,rfl,h1,h2⟩:=h
  have h1:(0:Int)≤x:=h1
  have h2:x≤255:=h2
  refine⟨UInt8.ofNat x.toNat,?_⟩
  rw[aN_]
  simp
  omega
def tM_:List TypeId:=[3,5,236,249,307,329,330]
theorem vR_:pOk ag_ tM_=true:=by decide
def laidL : List (String × DataW Unit) := [("stopwatch/digest.start", Rows.laid_stopwatch_digest_start), ("stopwatch/digest.permutations", Rows.laid_stopwatch_digest_permutations), ("stopwatch/facts.timeS", Rows.laid_stopwatch_facts_timeS), ("stopwatch/facts.lengthS", Rows.laid_stopwatch_facts_lengthS), ("stopwatch/facts.bibS", Rows.laid_stopwatch_facts_bibS), ("stopwatch/facts.matS", Rows.laid_stopwatch_facts_matS), ("stopwatch/facts.epochS", Rows.laid_stopwatch_facts_epochS), ("stopwatch/facts.chipS", Rows.laid_stopwatch_facts_chipS), ("stopwatch/facts.positionS", Rows.laid_stopwatch_facts_positionS), ("stopwatch/facts.caseS", Rows.laid_stopwatch_facts_caseS), ("stopwatch/facts.crewS", Rows.laid_stopwatch_facts_crewS), ("stopwatch/facts.numberS", Rows.laid_stopwatch_facts_numberS), ("stopwatch/facts.bitS", Rows.laid_stopwatch_facts_bitS)]
theorem uS_:h0_ Tryz.prog tM_ laidL=true:=by kernel_rfl
theorem nH_:(laidL.all fun x=>x.2.handleName?.isNone)=true:=by kernel_rfl
theorem vn_ (os:Os) (args:Array Value):laidMetH Tryz.prog laidL ((World.doorLaid Tryz.prog (400) os).forCall (fun _ _=>0) ⟨#[],args,[]⟩).memory :=
 laidMetH_of_parts3 (fuel:=8) (laidMet_of_run' 8 (by kernel_rfl) (by kernel_rfl)) (by kernel_rfl) (by kernel_rfl)
theorem xt_ (g:Nat) (ds:List D) (h:Glob.laid g=some ds):lw_ Tryz.prog laidL g=some ds:=by
 dsimp only[Glob.laid,instGlob] at h
 split at h<;>cases h<;>kernel_rfl
end Go.Proofs.YtfgcgagcpnbgmaaGreatDoor
set_option linter.unusedVariables false
set_option linter.unusedSimpArgs false
set_option linter.unusedSectionVars false
namespace Go.Proofs.YtfgcgagcpnbgmaaGreatDoor
open Go.Xe Go.RowKit
def kpF (s:List By):List (Nat→Int):=(recs s).map fun b=>(decF b).1
theorem kl_ (s:List By):(kpF s).length=(recs s).length:=by rw[kpF,List.length_map]
theorem sj_ (seed:By) (m:Int) (s:List By):(onL seed m (recs s)).map (·.1)=kpF s:=by simp[onL,kpF,sgQ]
def dR (s:List By) (left:Int):Rm:=mkR 2 [1] 3 s left 0
abbrev dOk (s:List By) (left:Int):Prop:=okR 2 [1] 3 s left 0
theorem Aa_ {s:List By} {left:Int} (h:dOk s left) {k:Int} (h0:0≤k) (h1:k≤65536):dOk s k :=
 ⟨h.c0,h.c1,h.key,h.n1,h.n2,by omega,h1,h.h128,h.on,h.s0,h.s1⟩
theorem th_ {s:List By} {left:Int} (h:dOk s left):(recs s).length≤3:=by
 have:=(a8_.1 h.key).2.2.2.2.2
 omega
theorem tg_ {s:List By} {left:Int} (h:dOk s left):∀ b∈recs s,b.length≤1000000000000:=fun b hb=>by
 have:=bA_ h.h128 h.n2 b hb
 omega
theorem d_rec {s:List By} {left:Int} (h:dOk s left) {f:Nat→Int} (hf:fOk f) :
  (∃ s' l',oR_ (dR s left) f=(dR s' l',0)∧dOk s' l'∧(∃ b,recs s'=recs s++[b])∧kpF s'=kpF s++[ownF 2 (recs s).length f]) ∨
  (∃ s',oR_ (dR s left) f=(dR s' (-1),380)∧dOk s' (-1)∧recs s'=recs s) ∨
  (∃ e,oR_ (dR s left) f=(zeR,e)∧e≠0∧e≠380):=by
 have hl:=th_ h
 have hg:fOk (ownF 2 (recs s).length f):=j7_ hf (by simp[isI]) (by omega)
 rw[dR,wZ_ h]
 rcases recV_cases h hg (ownF_0 _ _ _) (ownF_1 _ _ _) with⟨s',l',e1,o1,r1,d1⟩|⟨s',e1,o1,r1⟩|⟨e,e1,n1,n2⟩
 ·exact .inl ⟨s',l',e1,o1,⟨_,r1⟩,by rw[kpF,r1,List.map_append,List.map_cons,d1];rfl⟩
 ·exact .inr (.inl ⟨s',e1,o1,r1⟩)
 ·exact .inr (.inr ⟨e,e1,n1,n2⟩)
theorem xS_:qw_ 2 [1] 3 0 12=(dR (zeS 12) (-1),0):=by
 rw[qw_,if_pos (by decide),if_pos (by decide),if_pos (by decide)];rfl
theorem qS_:dOk (zeS 12) (-1):=ss_ (by decide) (by decide) (by decide) (by decide) (by decide)
theorem qT_:kpF (zeS 12)=[]:=by rw[kpF,aV_];rfl
def dCr:List Crw:=[(z32,1),(z32,1),(treeB (pubsB [1] 3),3)]
theorem Ac_:∀ c∈dCr,pD_ c:=fun c hc=>by
 simp only[dCr,List.mem_cons,List.not_mem_nil,or_false] at hc
 rcases hc with rfl|rfl|rfl
 ·exact⟨rfl,by unfold isI;decide⟩
 ·exact⟨rfl,by unfold isI;decide⟩
 ·exact⟨aX_ (pubsB [1] 3),by simp only[isI];decide⟩
theorem Dy_:crB dCr=true:=by
 have h:∀ d:Dg,crB [(z32,1),(z32,1),(d,3)]=true:=fun d=>by
  simp[crB,tA_]
 exact h _
theorem Dw_ {s:List By} {left:Int} (h:dOk s left) {p:Sg} (hp:p∈onL [1] 3 (recs s)):yP_ dCr p=0 :=
 zu_ (crew:=2) (seed:=[1]) (m:=3) (u:=(recs s).length) h.on h.key (by decide) (tg_ h) Dy_ (by decide) rfl hp
theorem Dx_ {s:List By} {left:Int} (h:dOk s left) {all:List Sg} (ha:∀ p∈all,p∈onL [1] 3 (recs s)):frkL all=[]:=zv_ h.on (tg_ h) ha
end Go.Proofs.YtfgcgagcpnbgmaaGreatDoor
