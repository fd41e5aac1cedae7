/-
  The row and the card of EvidenceCheckSpec: for every input the law returns true, and its arguments read afterwards as before; the variables start as the text lays them.
-/
import Derived.Test.YtdjkbdhdejlakaaGreatDoorVS
import Derived.Test.YtdjkbdhdejlakaaGreatDoorVZA
set_option linter.unusedVariables false
set_option linter.unusedSimpArgs false
set_option linter.unusedSectionVars false
namespace Go.Proofs.YtdjkbdhdejlakaaGreatDoor
open Go.Xe Go.RowKit
set_option maxRecDepth 100000 in
theorem sK_ (os:Os) (started:os.Started) (H:Type) (enc:TypeId×Value→H) :
  ReturnsInHanded {} Tryz.checked os 3 .any (fun w args=>(Rows.evidenceCheckSpecSpec.pre enc Tryz.prog Tryz.f3 [] false w args∧laidMetH Tryz.prog laidL w)∧sizedMet enc Tryz.prog Tryz.f3 (OpenSpec.ofChange Rows.evidenceCheckSpecSpec) false w args) (Rows.evidenceCheckSpecSpec.post enc Tryz.prog Tryz.f3 false true false false):=by
 refine returnsInHanded_of_change_and (C:=Tryz.checked) (X:=fun w _=>laidMetH Tryz.prog laidL w) (fun _ _ _ hh h=>h.of_heap hh) wu_ started (by kernel_rfl) Tryz.func3
  (ChangeSpec.witness_shaped (enc:=enc) (C:=Tryz.checked) (os:=os) (X:=fun w _=>laidMetH Tryz.prog laidL w) false (World.doorLaid Tryz.prog (400) os) #[.slice none 0 0,.agg #[.slice none 0 0],.agg #[.slice none 0 0]] 8 rfl (World.shaped_of_RefB (by kernel_rfl) (by kernel_rfl)) (by kernel_rfl) (by kernel_rfl) (by kernel_rfl) (v3_ os _)) ?_
 intro W base args ds gs before hval hW _ hwt hL _
 have hgl:=ru_ aa_ wt_ vt_ n5_ yf_ hL
 exact vr_ (fn:=Tryz.f3) aa_ wv_ mP_ (tb:=4) rfl (fun ds h=>by match ds,h with|[d0,d1,d2],_=>rfl) rfl Tryz.underlying4 (by
  intro t ht
  have:t=22∨t=25∨t=25:=by simpa [Tryz.f3] using ht
  rcases this with rfl|rfl|rfl<;>exact⟨rfl,by kernel_rfl,of_decide_eq_true (by kernel_rfl)⟩) (fun xs ha=>by
  match xs,ha with
  | [a0,a1,a2],⟨⟨n0,y0,o0,e0⟩,⟨⟨n1,y1,o1,e1⟩,⟨⟨n2,y2,o2,e2⟩,_⟩⟩⟩ =>
   obtain⟨x0,v0,h0⟩:=ug_ o0
   obtain⟨x1,v1,h1⟩:=j0_ o1
   obtain⟨x2,v2,h2⟩:=j0_ o2
   rw[e0,v0,e1,v1,e2,v2]
   exact n4_ x0 h0.1 h0.2 x1 h1.1 h1.2.1 h1.2.2 x2 h2.1 h2.2.1 h2.2.2) hval hgl hW hwt
theorem ey_:(Rows.evidenceCheckSpecRow.inPlace == Tryz.prog.inPlace 3)=true:=by kernel_rfl
theorem ex_:(Rows.evidenceCheckSpecRow.unfollowed == Tryz.prog.unfollowed 3)=true:=by kernel_rfl
theorem ew_:(Rows.evidenceCheckSpecRow.recurses == Tryz.prog.recurses 3)=true:=by kernel_rfl
theorem ev_:(Rows.evidenceCheckSpecRow.named == Tryz.prog.varsNamed 3)=true:=by kernel_rfl
theorem c4_:joinedFacts Tryz.prog 3 Tryz.f3 Rows.evidenceCheckSpecSpec Rows.evidenceCheckSpecRow=true:=by
 unfold joinedFacts
 rw[ey_,ex_,ew_,ev_]
 kernel_rfl
theorem dr_:Rows.EvidenceCheckSpecSaid :=
 OpenClaim.holds_of_wide 3 Tryz.f3 rfl rfl rfl rfl rfl rfl rfl ⟨rfl,rfl,rfl,rfl,rfl⟩ rfl rfl rfl rfl rfl (by kernel_rfl) Tryz.func3 c4_
  (of_decide_eq_true (by kernel_rfl)) (by unfold Func.isWrapper;first|(rw[if_pos (by decide +kernel)];kernel_rfl)|(rw[if_neg (by decide +kernel)];exact⟨rfl,rfl⟩))
  (fun os started H enc _=>sK_ os started H enc)
theorem evidenceCheckSpec_k0:Rows.evidenceCheckSpecRow.wfByText (OpenSpec.ofChange Rows.evidenceCheckSpecSpec)=true:=by kernel_rfl
theorem evidenceCheckSpec_k1 : Tryz.prog.mainIs = some (true, ("2ad5118254e34bf61519f8951064f1c871127e93c9500e4dcb42c54c40be6040" : String).toList) := by kernel_rfl
theorem evidenceCheckSpec_k2 : Tryz.prog.funcNamed "stopwatch/stopwatchlaw43.EvidenceCheckSpec" = some 3 := by kernel_rfl
theorem eu_:false=Tryz.prog.looks []:=by kernel_rfl
theorem et_:([22,25,25].all fun u => !Tryz.prog.wantsStandIn u)=true:=by kernel_rfl
theorem es_:false=Rows.evidenceCheckSpecRow.goesBy Tryz.prog:=by kernel_rfl
theorem evidenceCheckSpec_card:Rows.EvidenceCheckSpecCardSaid :=
 Claim7.holds_tied_plain_at .later [] [.widerDeep, .data, .data, .data, .data, .data, .data, .data, .data, .data, .data, .data, .data] true (true, "2ad5118254e34bf61519f8951064f1c871127e93c9500e4dcb42c54c40be6040") false dr_ (fun _ h => by cases h) evidenceCheckSpec_k0 (fun _ h => by cases h) evidenceCheckSpec_row_tie rfl ⟨rfl, rfl⟩ evidenceCheckSpec_k1 rfl
  (fun f fn hf hfn=>by
   obtain rfl:f=3:=Option.some.inj (evidenceCheckSpec_k2.symm.trans hf) |>.symm
   obtain rfl:fn=Tryz.f3:=(Option.some.inj (Tryz.func3.symm.trans hfn)).symm
   exact⟨eu_,fun j t ht=>by
    have hm:t∈[22,25,25]:=by have:=Array.mem_of_getElem? ht;simpa [Tryz.f3] using this
    exact (show Tryz.prog.wantsStandIn t=false by simpa using List.all_eq_true.1 et_ t hm)⟩)
  es_
end Go.Proofs.YtdjkbdhdejlakaaGreatDoor
