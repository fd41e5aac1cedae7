/-
  The reference's Batch, Confirm, Restart of remote crews. Walked.
-/
import Derived.Test.YtfgcgagcpnbgmaaGreatDoorGRl
set_option linter.all false
set_option maxRecDepth 10000
namespace Go.Proofs.YtfgcgagcpnbgmaaGreatDoor
open Go.Xe Go.RowKit
set_option maxHeartbeats 2000000 in
theorem tp_ (r:Rm) (h:rmOk r) (hf:fewD r.dk=true):Fn0 Tryz.prog 20 [rmD r] (.tup [sgD (os_ r).1 false,.v (.int .i64 (os_ r).2)]):=by
 have h16:=kR_ r h hf
 unfold os_
 unfold ckR at h16
 cases hv:rmB r with
 | true =>
  rw[hv,if_pos rfl] at h16
  rw[if_pos rfl]
  obtain⟨s0,s1⟩:=qd_ hv
  obtain⟨k,hk⟩:∃ k:Nat,r.sent=k:=⟨r.sent.toNat,by omega⟩
  rw[hk,Int.toNat_natCast]
  have hkl:k≤r.fs.length:=by omega
  have hd:=(p9_ (fun q hq=>(h.fo q hq).1) hkl).2
  have lD:=sgC_len (l:=r.fs.drop k) fun q hq=>(h.fo q (List.mem_of_mem_drop hq)).1
  rw[List.length_drop] at lD
  have ht:List.take ((r.fs.length-k)*61) (sgC (r.fs.drop k))=sgC (r.fs.drop k):=List.take_of_length_le (by omega)
  refine ad_ (pn:=an_) ac_ Tryz.func20 rfl fun β0=>?_
  simp only[Tryz.f20]
  repeat(first|apply wG|(apply wR;simp -dsimp[rmD,rmC,hk])|refine aI ?_)
  refine aa_ cJ_ h16 rfl rfl (by simp[rmD,rmC,hk]) ?_
  simp -dsimp
  refine sG ?_
  refine cF (by simp) ?_
  refine WP.skip ?_
  simp -dsimp
  repeat(first|apply wG|(apply wR;simp -dsimp[hd,ht,hkl])|refine aI ?_)
  refine WP.ret (ab_ ?_)
  simp -dsimp[hd,ht,List.length_drop]
 | false =>
  rw[hv,if_neg (by decide)] at h16
  rw[if_neg (by decide)]
  refine ad_ (pn:=an_) ac_ Tryz.func20 rfl fun β0=>?_
  simp only[Tryz.f20]
  repeat(first|apply wG|(apply wR;simp -dsimp[rmD,rmC])|refine aI ?_)
  refine aa_ cJ_ h16 rfl rfl (by simp[rmD,rmC]) ?_
  simp -dsimp
  refine sG ?_
  refine cT (by simp) ?_
  refine sG ?_
  refine WP.ret (ab_ ?_)
  simp -dsimp[sgC]
set_option maxHeartbeats 2000000 in
theorem to_ (r:Rm) (h:rmOk r) (hf:fewD r.dk=true) (n:Int):Fn0 Tryz.prog 22 [rmD r,.v (.int .i64 n)] (rmT (sm_ r n)):=by
 have h16:=kR_ r h hf
 unfold sm_
 unfold ckR at h16
 cases hv:rmB r with
 | true =>
  rw[hv,if_pos rfl] at h16
  rw[if_pos rfl]
  refine ad_ (pn:=an_) ac_ Tryz.func22 rfl fun β0=>?_
  simp only[Tryz.f22]
  repeat(first|apply wG|(apply wR;simp -dsimp[rmD,rmC])|refine aI ?_)
  refine aa_ cJ_ h16 rfl rfl (by simp[rmD,rmC]) ?_
  simp -dsimp
  refine sG ?_
  refine cF (by simp) ?_
  refine WP.skip ?_
  simp -dsimp
  refine sG ?_
  by_cases hc:r.sent≤n∧n≤r.fs.length
  ·rw[if_pos hc]
   refine cF (by simp;omega) ?_
   refine WP.skip ?_
   simp -dsimp
   refine sG ?_
   refine WP.ret (ab_ ?_)
   simp -dsimp[rmT,rmD,rmC]
  ·rw[if_neg hc]
   refine cT (by simp;omega) ?_
   refine sG ?_
   refine WP.ret (ab_ ?_)
   simp -dsimp[rmT,rmD_ze]
 | false =>
  rw[hv,if_neg (by decide)] at h16
  rw[if_neg (by decide)]
  refine ad_ (pn:=an_) ac_ Tryz.func22 rfl fun β0=>?_
  simp only[Tryz.f22]
  repeat(first|apply wG|(apply wR;simp -dsimp[rmD,rmC])|refine aI ?_)
  refine aa_ cJ_ h16 rfl rfl (by simp[rmD,rmC]) ?_
  simp -dsimp
  refine sG ?_
  refine cT (by simp) ?_
  refine sG ?_
  refine WP.ret (ab_ ?_)
  simp -dsimp[rmT,rmD_ze]
set_option maxHeartbeats 4000000 in
theorem th_ (r:Rm) (h:rmOk r) (hl:(∀ b∈r.dk.s,b.length=128)→r.dk.s.length≤80):Fn0 Tryz.prog 24 [rmD r] (rmT (qe_ r)):=by
 have h41:=ml_ r.seed h.sd r.many 0
 have h66:=oV_ r.dk
 have hdo:dkOk ⟨r.dk.s,[],-1,false⟩:=⟨h.dk.ns,Nat.zero_le _,by simp[isI]⟩
 have h43:=gi_ ⟨r.dk.s,[],-1,false⟩ hdo
 unfold qe_
 refine ad_ (pn:=an_) ac_ Tryz.func24 rfl fun β0=>?_
 simp only[Tryz.f24]
 repeat(first|apply wG|(apply wR;simp -dsimp[rmD,rmC])|refine aI ?_)
 by_cases hc:0≤r.crew∧r.crew<32
 ·rw[if_pos hc]
  refine cF (by simp;omega) ?_
  refine WP.skip ?_
  simp -dsimp
  by_cases hk:keyV r.seed r.many 0=true
  ·rw[if_pos hk]
   obtain⟨d,hd,h32⟩:=hU_ hk
   rw[hd,dD] at h41
   have ld:=ah_ d
   have h1:=cP_ d
   repeat(first|apply wG|(apply wR;simp -dsimp[slB])|refine aI ?_)
   refine aa_ dF_ h41 rfl rfl (by simp[keyD,slB]) ?_
   simp -dsimp
   repeat(first|apply wG|(apply wR;simp -dsimp[ld,h32,setL_whole])|refine aI ?_)
   refine cF (by simp) ?_
   refine WP.skip ?_
   simp -dsimp
   refine sG ?_
   refine aa_ pG_ h66 rfl rfl (by simp[dkD,dkC]) ?_
   simp -dsimp[dkD,dkC]
   refine sG ?_
   by_cases hb:dkB ⟨r.dk.s,[],-1,false⟩=true
   ·rw[if_pos hb]
    rw[k2_,if_pos hb,if_neg (by simp),if_neg (by simp)] at h43
    simp only at h43
    have hdd:=a1_.1 hb
    have hrl:=c7_ hdd.2.2
    have hsm:=qk_ hdd.2.2 (hl hdd.2.2)
    have hsl:=hdd.1.2.1
    simp only at hrl hsl hsm
    have h53:=qh_ r.crew r.seed h.sd r.many 0 r.dk.s.length (recs r.dk.s) (recs r.dk.s).length hk (by omega) hsm
    unfold onR at h53
    rw[dkD,dkC] at h43
    rw[logD,lgC] at h43 h53
    refine aa_ dE_ h43 rfl rfl (by simp) ?_
    simp -dsimp
    refine sG ?_
    refine cF (by simp) ?_
    refine WP.skip ?_
    simp -dsimp
    refine sG ?_
    refine aa_ jo_ h53 rfl rfl (by simp[keyD,slB]) ?_
    cases hon:onB r.crew r.many 0 (recs r.dk.s) with
    | true =>
     rw[if_pos rfl,if_pos rfl]
     simp -dsimp
     refine sG ?_
     refine cF (by simp) ?_
     refine WP.skip ?_
     simp -dsimp
     refine sG ?_
     refine WP.ret (ab_ ?_)
     simp -dsimp[rmT,rmD,rmC,slB,mkR,cm_]
    | false =>
     rw[if_neg (by decide),if_neg (by decide)]
     simp -dsimp
     refine sG ?_
     refine cT (by simp) ?_
     refine sG ?_
     refine WP.ret (ab_ ?_)
     simp -dsimp[rmT,rmD_ze]
   ·rw[if_neg hb]
    rw[k2_,if_neg hb] at h43
    simp only at h43
    rw[dkD,dkC] at h43
    refine aa_ dE_ h43 rfl rfl (by simp) ?_
    simp -dsimp[logD,lgC]
    repeat(first|apply wG|(apply wR;simp -dsimp[logD,lgC])|refine aI ?_)
    refine cT (by simp) ?_
    refine sG ?_
    refine WP.ret (ab_ ?_)
    simp -dsimp[rmT,rmD_ze]
  ·rw[if_neg hk]
   rw[kZ_ hk,dD] at h41
   have ld:=ah_ z32
   have h32:z32.length=32:=rfl
   have h1:=cP_ z32
   repeat(first|apply wG|(apply wR;simp -dsimp[slB])|refine aI ?_)
   refine aa_ dF_ h41 rfl rfl (by simp[keyD,slB]) ?_
   simp -dsimp
   repeat(first|apply wG|(apply wR;simp -dsimp[ld,h32,setL_whole])|refine aI ?_)
   refine cT (by simp) ?_
   refine sG ?_
   refine WP.ret (ab_ ?_)
   simp -dsimp[rmT,rmD_ze]
 ·rw[if_neg hc]
  refine cT (by simp;omega) ?_
  refine sG ?_
  refine WP.ret (ab_ ?_)
  simp -dsimp[rmT,rmD_ze]
end Go.Proofs.YtfgcgagcpnbgmaaGreatDoor
