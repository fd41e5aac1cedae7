/-
  Remote crews: Batch, Confirm and Restart agree with the reference. Walked.
-/
import Derived.Test.YtfgcgagcpnbgmaaGreatDoorGLj
set_option linter.all false
namespace Go.Proofs.YtfgcgagcpnbgmaaGreatDoor
open Go.Xe Go.RowKit
theorem fn_:rmOk zeR:=⟨by unfold isI;decide,by unfold isI;decide,by unfold isI;decide,⟨by decide,by decide,by unfold isI;decide⟩,by decide,by decide,by decide,fun _ h=>by cases h⟩
theorem xQ_ {r:Rm} (h:wz_ r=true):fewD r.dk=true:=by
 simp only[wz_,Bool.and_eq_true] at h
 exact h.2.1
theorem te_ (r:Rm) (hs:r.seed.length≤1000):rmOk (qe_ r).1∧(qe_ r).1.dk.p=[]:=by
 unfold qe_
 by_cases hc:0≤r.crew∧r.crew<32
 ·rw[if_pos hc]
  by_cases hk:keyV r.seed r.many 0=true
  ·rw[if_pos hk]
   by_cases hb:dkB ⟨r.dk.s,[],-1,false⟩=true
   ·rw[if_pos hb]
    by_cases hon:onB r.crew r.many 0 (recs r.dk.s)=true
    ·rw[if_pos hon]
     exact⟨iH_ (yC_ hc.1 hc.2 hk hb hon) hs,rfl⟩
    ·rw[if_neg hon];exact⟨fn_,rfl⟩
   ·rw[if_neg hb];exact⟨fn_,rfl⟩
  ·rw[if_neg hk];exact⟨fn_,rfl⟩
 ·rw[if_neg hc];exact⟨fn_,rfl⟩
theorem u0_ (r:Rm) (h:rmOk r) (n:Int):rmOk (sm_ r n).1∧(sm_ r n).1.dk.p=[]:=by
 unfold sm_
 by_cases hv:rmB r=true
 ·rw[if_pos hv]
  by_cases hc:r.sent≤n∧n≤r.fs.length
  ·rw[if_pos hc]
   have hp:r.dk.p=[]:=by
    have h2:=hv
    simp only[rmB,Bool.and_eq_true,decide_eq_true_eq] at h2
    exact List.length_eq_zero_iff.1 h2.2.2.1.2.2
   exact⟨⟨h.c,h.m,h.u,h.dk,h.sd,h.lr,h.fl,h.fo⟩,hp⟩
  ·rw[if_neg hc];exact⟨fn_,rfl⟩
 ·rw[if_neg hv];exact⟨fn_,rfl⟩
set_option maxRecDepth 10000 in
set_option maxHeartbeats 4000000 in
theorem li_ (r:Rm) (g:rmG r) (n:Int):Fn0 Tryz.prog 5 [rmD r,.v (.int .i64 n)] (.v (.bool true)):=by
 have h10:=mg_
 have ho:∀ p∈r.fs,dN_ p∧sgT p:=fun p hp=>⟨sS_ (g.fo p hp).1 (g.fo p hp).2,(g.fo p hp).2⟩
 have h36:=qP_ r.dk g.ds.1 g.ds.2 (fun w hw=>(g.dp.1 w hw).2) g.dp.2
 have h11:=qO_ r h36 g.lr.1 g.lr.2 ho g.fl
 refine ad_ (pn:=an_) ac_ Tryz.func5 rfl fun β0=>?_
 simp only[Tryz.f5]
 repeat(first|apply wG|(apply wR;simp -dsimp[rmD,rmC])|refine aI ?_)
 refine aa_ jx_ h10 rfl rfl (by simp) ?_
 simp -dsimp
 refine sG ?_
 refine cF (by simp) ?_
 refine WP.skip ?_
 simp -dsimp
 refine sG ?_
 refine aa_ jw_ h11 rfl rfl (by simp[rmD,rmC]) ?_
 simp -dsimp
 refine sG ?_
 cases hfw:wz_ r with
 | false =>
  refine cT (by simp[hfw]) ?_
  refine sG ?_
  refine WP.ret (ab_ ?_)
  simp -dsimp
 | true =>
  obtain⟨hk,h6⟩:=uq_ hfw ⟨g.c,g.m,g.u,g.dl⟩ ho
  have hfd:=xQ_ hfw
  have h19:=kK_ r hk (by omega)
  have h20:=tp_ r hk hfd
  have h21:=kJ_ r hk n
  have h22:=to_ r hk hfd n
  have h23:=kH_ r hk
  have h24:=th_ r hk (qN_ hfd)
  have hbo:∀ p∈(os_ r).1,dN_ p∧sgT p:=fun p hp=>by
   unfold os_ at hp
   split at hp
   ·exact ho p (List.mem_of_mem_drop hp)
   ·cases hp
  have hbl:(os_ r).1.length≤1000000000000:=by
   unfold os_
   split
   ·simp only[List.length_drop];omega
   ·simp
  have h25:=j0_ (os_ r).1 hbl hbo
  have h14:=ft_ (sm_ r n).1 (u0_ r hk n).1 (u0_ r hk n).2
  have h14b:=ft_ (qe_ r).1 (te_ r hk.sd).1 (te_ r hk.sd).2
  obtain⟨B,e,hB⟩:∃ B e,os_ r=(B,e):=⟨_,_,rfl⟩
  obtain⟨X,e2,hX⟩:∃ X e,sm_ r n=(X,e):=⟨_,_,rfl⟩
  obtain⟨U,e3,hU⟩:∃ X e,qe_ r=(X,e):=⟨_,_,rfl⟩
  rw[hB] at h19 h20 h25
  rw[hX] at h21 h22 h14
  rw[hU] at h23 h24 h14b
  clear hbo hbl
  refine cF (by simp[hfw]) ?_
  refine WP.skip ?_
  simp -dsimp
  refine sG ?_
  refine aa_ fg_ h19 rfl rfl (by simp[rmD,rmC]) ?_
  simp -dsimp
  refine sG ?_
  refine aa_ pY_ h20 rfl rfl (by simp[rmD,rmC]) ?_
  simp -dsimp
  refine sG ?_
  refine aa_ ff_ h21 rfl rfl (by simp[rmD,rmC]) ?_
  simp -dsimp[rmT,rmD,rmC]
  refine sG ?_
  refine aa_ pX_ h22 rfl rfl (by simp[rmD,rmC]) ?_
  simp -dsimp[rmT,rmD,rmC]
  refine sG ?_
  refine aa_ fe_ h23 rfl rfl (by simp[rmD,rmC]) ?_
  simp -dsimp[rmT,rmD,rmC]
  refine sG ?_
  refine aa_ pW_ h24 rfl rfl (by simp[rmD,rmC]) ?_
  simp -dsimp[rmT,rmD,rmC]
  refine sG ?_
  refine aa_ jv_ h25 rfl rfl (by simp) ?_
  simp -dsimp
  refine sG ?_
  refine ae_ dG_ (fun _=>h14) rfl (fun _=>rfl) (fun _=>by simp[rmD,rmC]) ?_
  simp -dsimp
  refine sG ?_
  refine ae_ dG_ (fun _=>h14b) rfl (fun _=>rfl) (fun _=>by simp[rmD,rmC]) ?_
  simp -dsimp
  refine sG ?_
  refine WP.ret (ab_ ?_)
  simp -dsimp
end Go.Proofs.YtfgcgagcpnbgmaaGreatDoor
