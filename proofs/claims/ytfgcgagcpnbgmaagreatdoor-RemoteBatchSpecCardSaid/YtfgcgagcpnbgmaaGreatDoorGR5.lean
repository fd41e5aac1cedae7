/-
  The row and the card of RemoteBatchSpec: for every input the law returns true, and its arguments read afterwards as before; the variables start as the text lays them.
-/
import Derived.Test.YtfgcgagcpnbgmaaGreatDoorGRl
import Derived.Test.YtfgcgagcpnbgmaaGreatDoorGBts
set_option linter.all false
namespace Go.Proofs.YtfgcgagcpnbgmaaGreatDoor
open Go.Xe Go.RowKit
set_option maxRecDepth 100000 in
theorem tx_ (os:Os) (started:os.Started) (H:Type) (enc:TypeId×Value→H) :
  ReturnsInHanded {} Tryz.checked os 5 .any (fun w args=>(Rows.remoteBatchSpecSpec.pre enc Tryz.prog Tryz.f5 [] false w args∧laidMetH Tryz.prog laidL w)∧sizedMet enc Tryz.prog Tryz.f5 (OpenSpec.ofChange Rows.remoteBatchSpecSpec) false w args) (Rows.remoteBatchSpecSpec.post enc Tryz.prog Tryz.f5 false true false false):=by
 refine returnsInHanded_of_change_and (C:=Tryz.checked) (X:=fun w _=>laidMetH Tryz.prog laidL w) (fun _ _ _ hh h=>h.of_heap hh) rb_ started (by kernel_rfl) Tryz.func5
  (ChangeSpec.witness_shaped (enc:=enc) (C:=Tryz.checked) (os:=os) (X:=fun w _=>laidMetH Tryz.prog laidL w) false (World.doorLaid Tryz.prog (400) os) #[Az_,.int .i64 0] 8 rfl (World.shaped_of_RefB (by kernel_rfl) (by kernel_rfl)) (by kernel_rfl) (by kernel_rfl) (by kernel_rfl) (qU_ os _)) ?_
 intro W base args ds gs before hval hW _ hwt hL _
 have hgl:=ke_ ac_ ra_ qC_ iM_ t6_ hL
 exact qA_ (fn:=Tryz.f5) ac_ rc_ g1_ (tb:=4) rfl (fun ds h=>by match ds,h with|[d0,d1],_=>rfl) rfl Tryz.underlying4 (by
  intro t ht
  have:t=33∨t=3:=by simpa [Tryz.f5] using ht
  rcases this with rfl|rfl<;>exact⟨rfl,by kernel_rfl,of_decide_eq_true (by kernel_rfl)⟩) (fun xs ha=>by
  match xs,ha with
  | [a0,a1],⟨⟨n0,y0,o0,e0⟩,⟨⟨n1,y1,o1,e1⟩,_⟩⟩ =>
   obtain⟨x0,v0,h0⟩:=ko_ o0
   obtain⟨x1,v1,h1⟩:=pr_ o1
   rw[e0,v0,e1,v1]
   exact li_ x0 h0 x1) hval hgl hW hwt
theorem fA_:(Rows.remoteBatchSpecRow.inPlace == Tryz.prog.inPlace 5)=true:=by kernel_rfl
theorem fz_:(Rows.remoteBatchSpecRow.unfollowed == Tryz.prog.unfollowed 5)=true:=by kernel_rfl
theorem fy_:(Rows.remoteBatchSpecRow.recurses == Tryz.prog.recurses 5)=true:=by kernel_rfl
theorem fx_:(Rows.remoteBatchSpecRow.named == Tryz.prog.varsNamed 5)=true:=by kernel_rfl
theorem dO_:joinedFacts Tryz.prog 5 Tryz.f5 Rows.remoteBatchSpecSpec Rows.remoteBatchSpecRow=true:=by
 unfold joinedFacts
 rw[fA_,fz_,fy_,fx_]
 kernel_rfl
theorem dX_:Rows.RemoteBatchSpecSaid :=
 OpenClaim.holds_of_wide 5 Tryz.f5 rfl rfl rfl rfl rfl rfl rfl ⟨rfl,rfl,rfl,rfl,rfl⟩ rfl rfl rfl rfl rfl (by kernel_rfl) Tryz.func5 dO_
  (of_decide_eq_true (by kernel_rfl)) (by unfold Func.isWrapper;first|(rw[if_pos (by decide +kernel)];kernel_rfl)|(rw[if_neg (by decide +kernel)];exact⟨rfl,rfl⟩))
  (fun os started H enc _=>tx_ os started H enc)
theorem remoteBatchSpec_k0:Rows.remoteBatchSpecRow.wfByText (OpenSpec.ofChange Rows.remoteBatchSpecSpec)=true:=by kernel_rfl
theorem remoteBatchSpec_k1 : Tryz.prog.mainIs = some (true, ("f764148190a6db167d136c8786372b7f12f188d73b807f914eb99d55b857976a" : String).toList) := by kernel_rfl
theorem remoteBatchSpec_k2 : Tryz.prog.funcNamed "stopwatch/stopwatchlaw44.RemoteBatchSpec" = some 5 := by kernel_rfl
theorem fw_:true=Tryz.prog.looks []:=by kernel_rfl
theorem fv_:([33,3].all fun u => !Tryz.prog.wantsStandIn u)=true:=by kernel_rfl
theorem fu_:false=Rows.remoteBatchSpecRow.goesBy Tryz.prog:=by kernel_rfl
theorem remoteBatchSpec_card:Rows.RemoteBatchSpecCardSaid :=
 Claim7.holds_tied_plain_at .later [] [.widerDeep, .data, .data, .data, .data, .data, .data, .data, .data, .data, .data, .data, .data] true (true, "f764148190a6db167d136c8786372b7f12f188d73b807f914eb99d55b857976a") true dX_ (fun _ h => by cases h) remoteBatchSpec_k0 (fun _ h => by cases h) remoteBatchSpec_row_tie rfl ⟨rfl, rfl⟩ remoteBatchSpec_k1 rfl
  (fun f fn hf hfn=>by
   obtain rfl:f=5:=Option.some.inj (remoteBatchSpec_k2.symm.trans hf) |>.symm
   obtain rfl:fn=Tryz.f5:=(Option.some.inj (Tryz.func5.symm.trans hfn)).symm
   exact⟨fw_,fun j t ht=>by
    have hm:t∈[33,3]:=by have:=Array.mem_of_getElem? ht;simpa [Tryz.f5] using this
    exact (show Tryz.prog.wantsStandIn t=false by simpa using List.all_eq_true.1 fv_ t hm)⟩)
  fu_
end Go.Proofs.YtfgcgagcpnbgmaaGreatDoor
