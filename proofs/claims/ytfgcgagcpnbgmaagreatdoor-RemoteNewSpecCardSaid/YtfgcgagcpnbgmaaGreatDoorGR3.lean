/-
  The row and the card of RemoteNewSpec: for every input the law returns true, and its arguments read afterwards as before; the variables start as the text lays them.
-/
import Derived.Test.YtfgcgagcpnbgmaaGreatDoorGRl
import Derived.Test.YtfgcgagcpnbgmaaGreatDoorGNws
set_option linter.all false
namespace Go.Proofs.YtfgcgagcpnbgmaaGreatDoor
open Go.Xe Go.RowKit
set_option maxRecDepth 100000 in
theorem ty_ (os:Os) (started:os.Started) (H:Type) (enc:TypeId×Value→H) :
  ReturnsInHanded {} Tryz.checked os 3 .any (fun w args=>(Rows.remoteNewSpecSpec.pre enc Tryz.prog Tryz.f3 [] false w args∧laidMetH Tryz.prog laidL w)∧sizedMet enc Tryz.prog Tryz.f3 (OpenSpec.ofChange Rows.remoteNewSpecSpec) false w args) (Rows.remoteNewSpecSpec.post enc Tryz.prog Tryz.f3 false true false false):=by
 refine returnsInHanded_of_change_and (C:=Tryz.checked) (X:=fun w _=>laidMetH Tryz.prog laidL w) (fun _ _ _ hh h=>h.of_heap hh) rb_ started (by kernel_rfl) Tryz.func3
  (ChangeSpec.witness_shaped (enc:=enc) (C:=Tryz.checked) (os:=os) (X:=fun w _=>laidMetH Tryz.prog laidL w) false (World.doorLaid Tryz.prog (400) os) #[.int .i64 0,.agg #[.slice none 0 0,.int .i64 0,.int .i64 0],.int .i64 0,Az_] 8 rfl (World.shaped_of_RefB (by kernel_rfl) (by kernel_rfl)) (by kernel_rfl) (by kernel_rfl) (by kernel_rfl) (qU_ os _)) ?_
 intro W base args ds gs before hval hW _ hwt hL _
 have hgl:=ke_ ac_ ra_ qC_ iM_ t6_ hL
 exact qA_ (fn:=Tryz.f3) ac_ rc_ g1_ (tb:=4) rfl (fun ds h=>by match ds,h with|[d0,d1,d2,d3],_=>rfl) rfl Tryz.underlying4 (by
  intro t ht
  have:t=3∨t=24∨t=3∨t=33:=by simpa [Tryz.f3] using ht
  rcases this with rfl|rfl|rfl|rfl<;>exact⟨rfl,by kernel_rfl,of_decide_eq_true (by kernel_rfl)⟩) (fun xs ha=>by
  match xs,ha with
  | [a0,a1,a2,a3],⟨⟨n0,y0,o0,e0⟩,⟨⟨n1,y1,o1,e1⟩,⟨⟨n2,y2,o2,e2⟩,⟨⟨n3,y3,o3,e3⟩,_⟩⟩⟩⟩ =>
   obtain⟨x0,v0,h0⟩:=pr_ o0
   obtain⟨x1,v1,h1⟩:=z5_ o1
   obtain⟨x2,v2,h2⟩:=pr_ o2
   obtain⟨x3,v3,h3⟩:=ko_ o3
   rw[e0,v0,e1,v1,e2,v2,e3,v3]
   exact pe_ x0 x1.1 x1.2.1 x1.2.2 x2 x3 h3) hval hgl hW hwt
theorem hK_:(Rows.remoteNewSpecRow.inPlace == Tryz.prog.inPlace 3)=true:=by kernel_rfl
theorem hJ_:(Rows.remoteNewSpecRow.unfollowed == Tryz.prog.unfollowed 3)=true:=by kernel_rfl
theorem hI_:(Rows.remoteNewSpecRow.recurses == Tryz.prog.recurses 3)=true:=by kernel_rfl
theorem hH_:(Rows.remoteNewSpecRow.named == Tryz.prog.varsNamed 3)=true:=by kernel_rfl
theorem eJ_:joinedFacts Tryz.prog 3 Tryz.f3 Rows.remoteNewSpecSpec Rows.remoteNewSpecRow=true:=by
 unfold joinedFacts
 rw[hK_,hJ_,hI_,hH_]
 kernel_rfl
theorem eW_:Rows.RemoteNewSpecSaid :=
 OpenClaim.holds_of_wide 3 Tryz.f3 rfl rfl rfl rfl rfl rfl rfl ⟨rfl,rfl,rfl,rfl,rfl⟩ rfl rfl rfl rfl rfl (by kernel_rfl) Tryz.func3 eJ_
  (of_decide_eq_true (by kernel_rfl)) (by unfold Func.isWrapper;first|(rw[if_pos (by decide +kernel)];kernel_rfl)|(rw[if_neg (by decide +kernel)];exact⟨rfl,rfl⟩))
  (fun os started H enc _=>ty_ os started H enc)
theorem remoteNewSpec_k0:Rows.remoteNewSpecRow.wfByText (OpenSpec.ofChange Rows.remoteNewSpecSpec)=true:=by kernel_rfl
theorem remoteNewSpec_k1 : Tryz.prog.mainIs = some (true, ("f764148190a6db167d136c8786372b7f12f188d73b807f914eb99d55b857976a" : String).toList) := by kernel_rfl
theorem remoteNewSpec_k2 : Tryz.prog.funcNamed "stopwatch/stopwatchlaw44.RemoteNewSpec" = some 3 := by kernel_rfl
theorem hG_:true=Tryz.prog.looks []:=by kernel_rfl
theorem hF_:([3,24,3,33].all fun u => !Tryz.prog.wantsStandIn u)=true:=by kernel_rfl
theorem hE_:false=Rows.remoteNewSpecRow.goesBy Tryz.prog:=by kernel_rfl
theorem remoteNewSpec_card:Rows.RemoteNewSpecCardSaid :=
 Claim7.holds_tied_plain_at .later [] [.widerDeep, .data, .data, .data, .data, .data, .data, .data, .data, .data, .data, .data, .data] true (true, "f764148190a6db167d136c8786372b7f12f188d73b807f914eb99d55b857976a") true eW_ (fun _ h => by cases h) remoteNewSpec_k0 (fun _ h => by cases h) remoteNewSpec_row_tie rfl ⟨rfl, rfl⟩ remoteNewSpec_k1 rfl
  (fun f fn hf hfn=>by
   obtain rfl:f=3:=Option.some.inj (remoteNewSpec_k2.symm.trans hf) |>.symm
   obtain rfl:fn=Tryz.f3:=(Option.some.inj (Tryz.func3.symm.trans hfn)).symm
   exact⟨hG_,fun j t ht=>by
    have hm:t∈[3,24,3,33]:=by have:=Array.mem_of_getElem? ht;simpa [Tryz.f3] using this
    exact (show Tryz.prog.wantsStandIn t=false by simpa using List.all_eq_true.1 hF_ t hm)⟩)
  hE_
end Go.Proofs.YtfgcgagcpnbgmaaGreatDoor
