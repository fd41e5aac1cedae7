/-
  The engine, part Cx. How a function ends that has run a range over a function, in one of several ways.
-/
import Derived.Test.YtdjkbdhdejlakaaGreatDoorVF
set_option linter.unusedVariables false
set_option linter.unusedSimpArgs false
set_option linter.unusedSectionVars false
namespace Go.Xe
open Go.RowKit
variable [Glob]
theorem fF_ {α:Type} {resX:α→AV} {boX:α→Bxs} (x:α) {P:Program} {τ:Tab} (hτ:aq_ P τ) {fn:Func} {res:AV} {bo:Bxs} {w:World} {I F:Nat→Prop} {β:Nat→Value} {a':Act} {dn:Dn}:∀ (df ks:List Nat) (S':St) (I':Nat→Prop) (β':Nat→Value) (w':World),S'.df=[]→dn.β0=β →
  Rel dn w I F S' I' β' a' w'→dX_ S'.bx bo df ks→r3_ τ fn.results.toList res bo S'→res=resX x→bo=boX x →
  LeavesInM Fence.wide 1 P fn a'.tmps (fun
     | .returned v,w'=>∃ x,∃ I' β',Mem w I F (boX x) I' β' w'∧DenA w' I' β' (resX x) v∧∀ k,1000≤k→β' k=β k
     | .panicked ch,w'=>False
     | .outgrown,_=>False) (df.map fD_) .returning w'
 | [],[],S',I',β',w',hdf,hβ,hr,_,⟨side,l,hl,hs,hle,hbo⟩,he1,he2=>by
  subst he1;subst he2
  obtain⟨us,hus,hdu⟩:=f6_ hτ hr _ hl hs
  exact⟨_,ee_ fn a'.tmps P w' us hus,x,I',β',hr.mem.sub hbo,hle _ _ _ _ hdu.one,fun k hk=>by rw[← hβ];exact hr.fx k hk⟩
 | D::df,k::ks,S',I',β',w',hdf,hβ,hr,⟨hk,hkb,hkn,hm⟩,⟨side,l,hl,hs,hle,hbo⟩,he1,he2=>by
  obtain⟨hy,hD⟩:=hr.mem.bxs k _ hk
  have hDlt:D<w'.heap.size:=(Array.getElem?_eq_some_iff.1 hD).1
  refine⟨fun e=>(by cases e),.inl ⟨D,w'.putObj D (.deferred none),rfl,run_takeDeferred hD,?_⟩⟩
  have hblk:blk (β' k)=some D:=by rw[hy];rfl
  have hm2:Mem w I F (delB S'.bx k) I' β' (w'.putObj D (.deferred none)):=by
   refine hr.mem.world (r:=some D) ⟨grownBy_putObj' w' D _,Nat.le_refl _⟩ (fun n e=>by cases e;exact hr.mem.sep k _ D hk (.inl hblk)) fun j b hj=>?_
   rw[getB_del] at hj
   split at hj
   ·cases hj
   ·rename_i hne
    refine⟨hj,.inr fun n e hn=>hne ?_⟩
    cases e
    exact hr.mem.inj k j _ b D hk hj (.inl hblk) hn
  have hkp:Kept w' I' (w'.putObj D (.deferred none)) I':=⟨fun _ h=>h,fun n hn=>World.putObj_heap_other fun e=>(hr.mem.sep k _ D hk (.inl hblk)).1 (e▸hn)⟩
  have hr2:Rel dn w I F ⟨S'.sl,delB S'.bx k,[]⟩ I' β' a' (w'.putObj D (.deferred none)):=⟨hm2,DenAs.mono hkp _ _ (fun _ _=>rfl) hr.sl,by have:=hr.dn;rw[hdf] at this;exact this,hr.fx⟩
  refine fF_ x hτ df ks ⟨S'.sl,delB S'.bx k,[]⟩ I' β' _ rfl hβ hr2 (eN_ hkn hm) ⟨side,l,(hi_ hk _).trans hl,hs,hle,fun j b hj=>?_⟩ he1 he2
  show getB (delB S'.bx k) j=_
  rw[getB_del]
  split
  ·rename_i e;subst e;rw[hkb] at hj;cases hj
  ·exact hbo j b hj
 | [],_::_,_,_,_,_,_,_,_,h,_,_,_=>h.elim
 | _::_,[],_,_,_,_,_,_,_,h,_,_,_=>h.elim
def finXR (τ:Tab) (rs:List ResultVar) {α:Type} (res:α→AV) (bo:α→Bxs) (e:Exit) (S:Kp2 (τ,rs) (res,bo)):Prop:=∃ x,finQR τ rs (res x) (bo x) e S
theorem i0_ {P:Program} {τ:Tab} (hτ:aq_ P τ) {f:FuncId} {fn:Func} {c:Code} (hf:P.funcs[f]? = some fn) (hb:fn.body=some c) {args:List AV} {bi:Bxs} {α:Type} {res:α→AV} {bo:α→Bxs}
  (h:∀ β0,WP P ⟨[],β0,none,true⟩ ao_ c (finXR τ fn.results.toList res bo) (dO_ fn.ntmps args bi)):FunX P f args bi res bo:=by
 intro w I β vs hm hd
 refine callsIn_wide (n:=1).1 (callsIn_of_wp_marks hf hb trivial (wpIn_mono (h β w I (Fp bi β) I β _ w ⟨hm,?_,⟨rfl,fun h=>by cases h⟩,fun _ _=>rfl⟩) fun e a' w' hh=>?_))
 ·simp only[dO_,Array.toList_append,Array.toList_replicate]
  rw[hd.length]
  have:=ch_ (w:=w) (I:=I) (β:=β) (List.replicate (fn.ntmps-vs.length) undef)
  simp only[List.length_replicate] at this
  exact hd.append (by simpa using this)
 ·have fin:(∃ S I' β',(∃ x,∃ S',Wk S S'∧r3_ τ fn.results.toList (res x) (bo x) S'∧∃ ks,dX_ S'.bx (bo x) S'.df ks)∧Rel ⟨[],β,none,true⟩ w I (Fp bi β) S I' β' a' w') →
    LeavesInM Fence.wide 1 P fn a'.tmps (fun
     | .returned v,w'=>∃ x,∃ I' β',Mem w I (Fp bi β) (bo x) I' β' w'∧DenA w' I' β' (res x) v∧∀ k,1000≤k→β' k=β k
     | .panicked ch,w'=>False
     | .outgrown,_=>False) a'.defers .returning w':=by
   rintro⟨S,I1,β1,⟨x,S',hw,⟨side,l,hl,hs,hle,hbo⟩,ks,hks⟩,hr1⟩
   obtain⟨I',β',hr⟩:=hw _ _ _ _ _ _ _ _ hr1
   have hdn:=hr.dn.1
   simp only[List.append_nil] at hdn
   rw[hdn]
   refine fF_ (resX:=res) (boX:=bo) x hτ S'.df ks ⟨S'.sl,S'.bx,[]⟩ I' β' w' (dn:=⟨a'.defers,β,none,true⟩) rfl rfl ⟨hr.mem,hr.sl,⟨rfl,fun h=>by cases h⟩,hr.fx⟩ hks ⟨side,l,(resA_df _).trans hl,hs,hle,hbo⟩ rfl rfl
  cases e with
  | normal=>obtain⟨S,I',β',⟨x,hq⟩,hrr⟩:=hh;exact fin ⟨S,I',β',⟨x,hq.2⟩,hrr⟩
  | ret=>obtain⟨S,I',β',⟨x,hq⟩,hrr⟩:=hh;exact fin ⟨S,I',β',⟨x,hq.2⟩,hrr⟩
  | panic ch=>exact hh.1.elim
  | exit id=>obtain⟨S,I',β',⟨x,hq⟩,_⟩:=hh;rcases hq.1 with h|h<;>cases h
  | goto l=>obtain⟨S,I',β',⟨x,hq⟩,_⟩:=hh;rcases hq.1 with h|h<;>cases h
  | outgrown=>exact hh.elim
theorem hs_ {τ:Tab} {rs:List ResultVar} {α:Type} {res:α→AV} {bo:α→Bxs} {e:Exit} {S:St} (x:α) (h:finQR τ rs (res x) (bo x) e S):finXR τ rs res bo e S:=⟨x,h⟩
theorem li_ {P:Program} {ds:Dn} {pn:Pn} {Q:Exit→St→Prop} {S:St} {τ:Tab} (hτ:aq_ P τ) {id:Nat} {o0 o:Oper} {l:List Oper} (hg:o.guard=none)
  (h:vcOps P ds pn τ ((o0::o::l).map (·.dst)) (fun _ S1=>vcX P ds pn o (fun S2=>vcOps P ds pn τ ((o0::o::l).map (·.dst)) (fun _ S'=>Q .normal S') l S2 []) S1) [o0] S []):WP P ds pn (.region id (o0::o::l).toArray false) Q S :=
 AS_ 1 hτ rfl hg h
theorem FunX.one {P:Program} {f:FuncId} {args:List AV} {bi:Bxs} {α:Type} {res:α→AV} {bo:α→Bxs} (h:FunX P f args bi res bo) {r:AV} {b:Bxs} (hr:∀ x,res x=r) (hb:∀ x,bo x=b):Fun P f args bi r b fun _=>False:=fun w I β vs hm hd=>by
 refine Calls.mono (h w I β vs hm hd) fun e w' he=>?_
 cases e with
 | returned v =>
  obtain⟨x,I',β',h1,h2,h3⟩:=he
  rw[hb] at h1
  rw[hr] at h2
  exact⟨I',β',h1,h2,h3⟩
 | panicked ch=>exact he.elim
 | outgrown=>exact he
end Go.Xe
