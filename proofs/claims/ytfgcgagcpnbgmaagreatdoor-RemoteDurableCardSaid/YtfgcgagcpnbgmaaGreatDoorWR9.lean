/-
  The row and the card of RemoteDurable: for every input the law returns true, and its arguments read afterwards as before; the variables start as the text lays them.
-/
import Derived.Test.YtfgcgagcpnbgmaaGreatDoorWDur
set_option linter.unusedVariables false
set_option linter.unusedSimpArgs false
set_option linter.unusedSectionVars false
namespace Go.Proofs.YtfgcgagcpnbgmaaGreatDoor
open Go.Xe Go.RowKit
set_option maxRecDepth 100000 in
theorem r2_ (os:Os) (started:os.Started) (H:Type) (enc:TypeId×Value→H) :
  ReturnsInHanded {} Tryz.checked os 9 .any (fun w args=>(Rows.remoteDurableSpec.pre enc Tryz.prog Tryz.f9 [] false w args∧laidMetH Tryz.prog laidL w)∧sizedMet enc Tryz.prog Tryz.f9 (OpenSpec.ofChange Rows.remoteDurableSpec) false w args) (Rows.remoteDurableSpec.post enc Tryz.prog Tryz.f9 false true false false):=by
 refine returnsInHanded_of_change_and (C:=Tryz.checked) (X:=fun w _=>laidMetH Tryz.prog laidL w) (fun _ _ _ hh h=>h.of_heap hh) vS_ started (by kernel_rfl) Tryz.func9
  (ChangeSpec.witness_shaped (enc:=enc) (C:=Tryz.checked) (os:=os) (X:=fun w _=>laidMetH Tryz.prog laidL w) false (World.doorLaid Tryz.prog (400) os) #[.slice none 0 0] 8 rfl (World.shaped_of_RefB (by kernel_rfl) (by kernel_rfl)) (by kernel_rfl) (by kernel_rfl) (by kernel_rfl) (vn_ os _)) ?_
 intro W base args ds gs before hval hW _ hwt hL _
 have hgl:=qJ_ aa_ vR_ uS_ nH_ xt_ hL
 exact uQ_ (fn:=Tryz.f9) aa_ vT_ l3_ (tb:=4) rfl (fun ds h=>by match ds,h with|[d0],_=>rfl) rfl Tryz.underlying4 (by
  intro t ht
  have:t=94:=by simpa [Tryz.f9] using ht
  subst this
  exact⟨rfl,by kernel_rfl,of_decide_eq_true (by kernel_rfl)⟩) (fun xs ha=>by
  match xs,ha with
  | [a0],⟨⟨n0,y0,o0,e0⟩,_⟩ =>
   obtain⟨x0,v0,h0⟩:=vN_ o0
   rw[e0,v0]
   exact nG_ x0 h0.1 h0.2) hval hgl hW hwt
theorem gI_:(Rows.remoteDurableRow.inPlace == Tryz.prog.inPlace 9)=true:=by kernel_rfl
theorem gH_:(Rows.remoteDurableRow.unfollowed == Tryz.prog.unfollowed 9)=true:=by kernel_rfl
theorem gG_:(Rows.remoteDurableRow.recurses == Tryz.prog.recurses 9)=true:=by kernel_rfl
theorem gF_:(Rows.remoteDurableRow.named == Tryz.prog.varsNamed 9)=true:=by kernel_rfl
theorem d0_:joinedFacts Tryz.prog 9 Tryz.f9 Rows.remoteDurableSpec Rows.remoteDurableRow=true:=by
 unfold joinedFacts
 rw[gI_,gH_,gG_,gF_]
 kernel_rfl
theorem eg_:Rows.RemoteDurableSaid :=
 OpenClaim.holds_of_wide 9 Tryz.f9 rfl rfl rfl rfl rfl rfl rfl ⟨rfl,rfl,rfl,rfl,rfl⟩ rfl rfl rfl rfl rfl (by kernel_rfl) Tryz.func9 d0_
  (of_decide_eq_true (by kernel_rfl)) (by unfold Func.isWrapper;first|(rw[if_pos (by decide +kernel)];kernel_rfl)|(rw[if_neg (by decide +kernel)];exact⟨rfl,rfl⟩))
  (fun os started H enc _=>r2_ os started H enc)
theorem remoteDurable_k0:Rows.remoteDurableRow.wfByText (OpenSpec.ofChange Rows.remoteDurableSpec)=true:=by kernel_rfl
theorem remoteDurable_k1 : Tryz.prog.mainIs = some (true, ("f764148190a6db167d136c8786372b7f12f188d73b807f914eb99d55b857976a" : String).toList) := by kernel_rfl
theorem remoteDurable_k2 : Tryz.prog.funcNamed "stopwatch/stopwatchlaw44.RemoteDurable" = some 9 := by kernel_rfl
theorem gE_:true=Tryz.prog.looks []:=by kernel_rfl
theorem gD_:([94].all fun u => !Tryz.prog.wantsStandIn u)=true:=by kernel_rfl
theorem gC_:false=Rows.remoteDurableRow.goesBy Tryz.prog:=by kernel_rfl
theorem remoteDurable_card:Rows.RemoteDurableCardSaid :=
 Claim7.holds_tied_plain_at .later [] [.widerDeep, .data, .data, .data, .data, .data, .data, .data, .data, .data, .data, .data, .data] true (true, "f764148190a6db167d136c8786372b7f12f188d73b807f914eb99d55b857976a") true eg_ (fun _ h => by cases h) remoteDurable_k0 (fun _ h => by cases h) remoteDurable_row_tie rfl ⟨rfl, rfl⟩ remoteDurable_k1 rfl
  (fun f fn hf hfn=>by
   obtain rfl:f=9:=Option.some.inj (remoteDurable_k2.symm.trans hf) |>.symm
   obtain rfl:fn=Tryz.f9:=(Option.some.inj (Tryz.func9.symm.trans hfn)).symm
   exact⟨gE_,fun j t ht=>by
    have hm:t∈[94]:=by have:=Array.mem_of_getElem? ht;simpa [Tryz.f9] using this
    exact (show Tryz.prog.wantsStandIn t=false by simpa using List.all_eq_true.1 gD_ t hm)⟩)
  gC_
end Go.Proofs.YtfgcgagcpnbgmaaGreatDoor
