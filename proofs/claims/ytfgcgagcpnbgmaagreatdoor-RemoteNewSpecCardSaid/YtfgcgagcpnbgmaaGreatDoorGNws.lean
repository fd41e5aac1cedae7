/-
  Remote crews: New and Check agree with the reference. Walked.
-/
import Derived.Test.YtfgcgagcpnbgmaaGreatDoorGRl
set_option linter.all false
namespace Go.Proofs.YtfgcgagcpnbgmaaGreatDoor
open Go.Xe Go.RowKit
theorem fn_:rmOk zeR:=⟨by unfold isI;decide,by unfold isI;decide,by unfold isI;decide,⟨by decide,by decide,by unfold isI;decide⟩,by decide,by decide,by decide,fun _ h=>by cases h⟩
theorem zb_ (crew:Int) (seed:By) (m u k:Int) (hs:seed.length≤1000):rmOk (lV_ crew seed m u k).1∧(lV_ crew seed m u k).1.dk.p=[]:=by
 unfold lV_
 by_cases hc:0≤crew∧crew<32
 ·rw[if_pos hc]
  by_cases hk:keyV seed m u=true
  ·rw[if_pos hk]
   by_cases hn:1≤k∧k≤4096
   ·rw[if_pos hn]
    have h1:=a0_.1 hk
    have hk0:keyV seed m 0=true:=a0_.2 ⟨h1.1,h1.2.1,h1.2.2.1,h1.2.2.2.1,by omega,by omega⟩
    exact⟨iH_ (tX_ hc.1 hc.2 hk0 (by omega) (by omega)) hs,rfl⟩
   ·rw[if_neg hn];exact⟨fn_,rfl⟩
  ·rw[if_neg hk];exact⟨fn_,rfl⟩
 ·rw[if_neg hc];exact⟨fn_,rfl⟩
theorem xQ_ {r:Rm} (h:wz_ r=true):fewD r.dk=true:=by
 simp only[wz_,Bool.and_eq_true] at h
 exact h.2.1
set_option maxRecDepth 10000 in
set_option maxHeartbeats 4000000 in
theorem pe_ (crew:Int) (seed:By) (m u:Int) (n:Int) (r:Rm) (g:rmG r):Fn0 Tryz.prog 3 [.v (.int .i64 crew),keyD seed m u,.v (.int .i64 n),rmD r] (.v (.bool true)):=by
 have h10:=mg_
 have ho:∀ p∈r.fs,dN_ p∧sgT p:=fun p hp=>⟨sS_ (g.fo p hp).1 (g.fo p hp).2,(g.fo p hp).2⟩
 have h36:=qP_ r.dk g.ds.1 g.ds.2 (fun w hw=>(g.dp.1 w hw).2) g.dp.2
 have h11:=qO_ r h36 g.lr.1 g.lr.2 ho g.fl
 refine ad_ (pn:=an_) ac_ Tryz.func3 rfl fun β0=>?_
 simp only[Tryz.f3]
 repeat(first|apply wG|(apply wR;simp -dsimp[rmD,rmC,keyD,slB])|refine aI ?_)
 refine aa_ jx_ h10 rfl rfl (by simp) ?_
 simp -dsimp
 refine sG ?_
 refine cF (by simp) ?_
 refine WP.skip ?_
 simp -dsimp
 refine sG ?_
 refine ae_ jw_ (fun _=>h11) rfl (fun _=>rfl) (fun _=>by simp[rmD,rmC]) ?_
 simp -dsimp
 repeat refine aI ?_
 obtain⟨c,hc⟩:∃ c,(decide (4<m)&&decide (m≤4096)||decide (100<(seed.length:Int))||decide (60<n)&&decide (n≤4096) || !wz_ r)=c:=⟨_,rfl⟩
 cases c with
 | true =>
  refine cT (congrArg (fun x=>AV.d (D.v (Value.bool x))) hc) ?_
  refine sG ?_
  refine WP.ret (ab_ ?_)
  simp -dsimp
 | false =>
  have hcc:=hc
  simp only[Bool.or_eq_false_iff,decide_eq_false_iff_not,Bool.not_eq_false'] at hcc
  obtain⟨⟨⟨_,hs⟩,_⟩,hfw⟩:=hcc
  obtain⟨hk,h6⟩:=uq_ hfw ⟨g.c,g.m,g.u,g.dl⟩ ho
  have h15:=cq_ r hk
  have h16:=kR_ r hk (xQ_ hfw)
  have h12:=hR_ crew seed (by omega) m u n
  have h13:=rL_ crew seed (by omega) m u n
  obtain⟨ho2,hp2⟩:=zb_ crew seed m u n (by omega)
  have h14:=ft_ (lV_ crew seed m u n).1 ho2 hp2
  obtain⟨X,e,hX⟩:∃ X e,lV_ crew seed m u n=(X,e):=⟨_,_,rfl⟩
  rw[hX] at h12 h13 h14
  refine cF (congrArg (fun x=>AV.d (D.v (Value.bool x))) hc) ?_
  refine WP.skip ?_
  simp -dsimp
  refine sG ?_
  refine aa_ fi_ h12 rfl rfl (by simp[keyD,slB]) ?_
  simp -dsimp[rmT,rmD,rmC]
  refine sG ?_
  refine aa_ pZ_ h13 rfl rfl (by simp[keyD,slB]) ?_
  simp -dsimp[rmT,rmD,rmC]
  refine sG ?_
  refine aa_ dG_ h14 rfl rfl (by simp[rmD,rmC]) ?_
  simp -dsimp
  repeat refine aI ?_
  refine ae_ bl_ (fun _=>h15) rfl (fun _=>rfl) (fun _=>by simp[rmD,rmC]) ?_
  simp -dsimp
  repeat refine aI ?_
  refine ae_ cJ_ (fun _=>h16) rfl (fun _=>rfl) (fun _=>by simp[rmD,rmC]) ?_
  simp -dsimp
  repeat refine aI ?_
  refine WP.ret (ab_ ?_)
  simp -dsimp
end Go.Proofs.YtfgcgagcpnbgmaaGreatDoor
