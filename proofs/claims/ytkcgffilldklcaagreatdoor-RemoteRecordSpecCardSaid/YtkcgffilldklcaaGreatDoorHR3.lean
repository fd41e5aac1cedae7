/-
  The row and the card of RemoteRecordSpec: for every input the law returns true, and its arguments read afterwards as before; the variables start as the text lays them.
-/
import Derived.Test.YtkcgffilldklcaaGreatDoorHRcs
set_option linter.all false
namespace Go.Proofs.YtkcgffilldklcaaGreatDoor
open Go.Xe Go.RowKit
set_option maxRecDepth 100000 in
theorem tz_ (os:Os) (started:os.Started) (H:Type) (enc:TypeId×Value→H) :
  ReturnsInHanded {} Tryz.checked os 3 .any (fun w args=>(Rows.remoteRecordSpecSpec.pre enc Tryz.prog Tryz.f3 [] false w args∧laidMetH Tryz.prog laidL w)∧sizedMet enc Tryz.prog Tryz.f3 (OpenSpec.ofChange Rows.remoteRecordSpecSpec) false w args) (Rows.remoteRecordSpecSpec.post enc Tryz.prog Tryz.f3 false true false false):=by
 refine returnsInHanded_of_change_and (C:=Tryz.checked) (X:=fun w _=>laidMetH Tryz.prog laidL w) (fun _ _ _ hh h=>h.of_heap hh) xn_ started (by kernel_rfl) Tryz.func3
  (ChangeSpec.witness_shaped (enc:=enc) (C:=Tryz.checked) (os:=os) (X:=fun w _=>laidMetH Tryz.prog laidL w) false (World.doorLaid Tryz.prog (400) os) #[Ev_,Ew_] 8 rfl (World.shaped_of_RefB (by kernel_rfl) (by kernel_rfl)) (by kernel_rfl) (by kernel_rfl) (by kernel_rfl) (wI_ os _)) ?_
 intro W base args ds gs before hval hW _ hwt hL _
 have hgl:=r1_ ac_ xm_ wk_ o4_ zm_ hL
 exact wj_ (fn:=Tryz.f3) ac_ xo_ no_ (tb:=4) rfl (fun ds h=>by match ds,h with|[d0,d1],_=>rfl) rfl Tryz.underlying4 (by
  intro t ht
  have:t=33∨t=59:=by simpa [Tryz.f3] using ht
  rcases this with rfl|rfl<;>exact⟨rfl,by kernel_rfl,of_decide_eq_true (by kernel_rfl)⟩) (fun xs ha=>by
  match xs,ha with
  | [a0,a1],⟨⟨n0,y0,o0,e0⟩,⟨⟨n1,y1,o1,e1⟩,_⟩⟩ =>
   obtain⟨x0,v0,h0⟩:=sn_ o0
   obtain⟨x1,v1,h1⟩:=w8_ o1
   rw[e0,v0,e1,v1]
   exact jJ_ x0 h0 x1 h1) hval hgl hW hwt
theorem e2_:(Rows.remoteRecordSpecRow.inPlace == Tryz.prog.inPlace 3)=true:=by kernel_rfl
theorem e1_:(Rows.remoteRecordSpecRow.unfollowed == Tryz.prog.unfollowed 3)=true:=by kernel_rfl
theorem e0_:(Rows.remoteRecordSpecRow.recurses == Tryz.prog.recurses 3)=true:=by kernel_rfl
theorem eZ_:(Rows.remoteRecordSpecRow.named == Tryz.prog.varsNamed 3)=true:=by kernel_rfl
theorem dt_:joinedFacts Tryz.prog 3 Tryz.f3 Rows.remoteRecordSpecSpec Rows.remoteRecordSpecRow=true:=by
 unfold joinedFacts
 rw[e2_,e1_,e0_,eZ_]
 kernel_rfl
theorem dQ_:Rows.RemoteRecordSpecSaid :=
 OpenClaim.holds_of_wide 3 Tryz.f3 rfl rfl rfl rfl rfl rfl rfl ⟨rfl,rfl,rfl,rfl,rfl⟩ rfl rfl rfl rfl rfl (by kernel_rfl) Tryz.func3 dt_
  (of_decide_eq_true (by kernel_rfl)) (by unfold Func.isWrapper;first|(rw[if_pos (by decide +kernel)];kernel_rfl)|(rw[if_neg (by decide +kernel)];exact⟨rfl,rfl⟩))
  (fun os started H enc _=>tz_ os started H enc)
theorem remoteRecordSpec_k0:Rows.remoteRecordSpecRow.wfByText (OpenSpec.ofChange Rows.remoteRecordSpecSpec)=true:=by kernel_rfl
theorem remoteRecordSpec_k1 : Tryz.prog.mainIs = some (true, ("82b8c1d01663d1b344401319d9041ea18277a063dc28142522772836804f0912" : String).toList) := by kernel_rfl
theorem remoteRecordSpec_k2 : Tryz.prog.funcNamed "stopwatch/stopwatchlaw44.RemoteRecordSpec" = some 3 := by kernel_rfl
theorem eY_:true=Tryz.prog.looks []:=by kernel_rfl
theorem eX_:([33,59].all fun u => !Tryz.prog.wantsStandIn u)=true:=by kernel_rfl
theorem eW_:false=Rows.remoteRecordSpecRow.goesBy Tryz.prog:=by kernel_rfl
theorem remoteRecordSpec_card:Rows.RemoteRecordSpecCardSaid :=
 Claim7.holds_tied_plain_at .later [] [.widerDeep, .data, .data, .data, .data, .data, .data, .data, .data, .data, .data, .data, .data] true (true, "82b8c1d01663d1b344401319d9041ea18277a063dc28142522772836804f0912") true dQ_ (fun _ h => by cases h) remoteRecordSpec_k0 (fun _ h => by cases h) remoteRecordSpec_row_tie rfl ⟨rfl, rfl⟩ remoteRecordSpec_k1 rfl
  (fun f fn hf hfn=>by
   obtain rfl:f=3:=Option.some.inj (remoteRecordSpec_k2.symm.trans hf) |>.symm
   obtain rfl:fn=Tryz.f3:=(Option.some.inj (Tryz.func3.symm.trans hfn)).symm
   exact⟨eY_,fun j t ht=>by
    have hm:t∈[33,59]:=by have:=Array.mem_of_getElem? ht;simpa [Tryz.f3] using this
    exact (show Tryz.prog.wantsStandIn t=false by simpa using List.all_eq_true.1 eX_ t hm)⟩)
  eW_
end Go.Proofs.YtkcgffilldklcaaGreatDoor
