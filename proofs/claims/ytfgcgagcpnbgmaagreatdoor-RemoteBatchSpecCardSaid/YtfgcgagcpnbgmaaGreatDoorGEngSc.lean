/-
  The engine: labels, and a scope that nobody jumps in.
-/
import Derived.Test.YtfgcgagcpnbgmaaGreatDoorG4
import Derived.Scope
set_option linter.all false
namespace Go.Xe
open Go.RowKit
variable [Glob]
theorem bN_ {P:Program} {b:Frame} {a:Act} {k:List Item} {cs:List Frame} {w:World} {c:Code}:step P (lone (b.atR a (.code (.scope c)::k)) cs w)=.next (lone (b.atR a (.code c :: .inScope c::k)) cs w) :=
 step_lone_go (by simp[stepG,stepG.exec,Frame.atR])
theorem jB_ {P:Program} {b:Frame} {a:Act} {k:List Item} {cs:List Frame} {w:World} {c:Code}:step P (lone (b.atR a (.inScope c::k)) cs w)=.next (lone (b.atR a k) cs w) :=
 step_lone_go (by simp[stepG,stepG.exec,Frame.atR])
theorem oA_ {F:Fence} {n:Nat} {P:Program} {Q:Exit→Act→World→Prop} {a:Act} {w:World} {c:Code} (h:c.wpIn F n P (Exit.noGoto Q) a w):(Code.scope c).wpIn F n P Q a w:=by
 intro b k cs hro hb hr
 have h0:(lone (b.atR a (.code (.scope c)::k)) cs w).fenced P F:=fenced_calm hb hr rfl
 obtain⟨e,a₁,w₁,hq,harr⟩:=h b (.inScope c::k) cs hro hb hr
 cases e with
 | normal=>exact⟨.normal,a₁,w₁,hq,.head h0 bN_ (StepsIn.trans harr (.one (fenced_calm hb hr rfl) jB_))⟩
 | exit id =>
  have hx:exitTo id (.inScope c::k)=exitTo id k:=by simp[exitTo]
  exact⟨.exit id,a₁,w₁,hq,fun k' hk=>.head h0 bN_ (harr.1 k' (by rw[hx];exact hk)),
   fun hr' hk=>let ⟨k₁,h1,h2⟩:=harr.2 hr' (by rw[hx];exact hk);⟨k₁,h1,.head h0 bN_ h2⟩⟩
 | goto l=>exact hq.elim
 | ret=>exact⟨_,a₁,w₁,hq,.of_steps (.one h0 bN_) harr⟩
 | panic ch=>exact⟨_,a₁,w₁,hq,.of_steps (.one h0 bN_) harr⟩
 | outgrown=>exact⟨_,a₁,w₁,hq,.of_steps (.one h0 bN_) harr⟩
def scQ (Q:Exit→St→Prop) (e:Exit) (S:Kp Q):Prop:=match e with
 | .goto _=>False
 | e=>Q e S
theorem WP.label {P:Program} {ds:Dn} {pn:Pn} {Q:Exit→St→Prop} {S:St} {l:Nat} (h:Q .normal S):WP P ds pn (.label l) Q S:=fun _ _ _ I β a w hr=>wpIn_label (Q:=sr_ P ds pn _ _ _ Q) ⟨S,I,β,h,hr⟩
theorem WP.scope {P:Program} {ds:Dn} {pn:Pn} {Q:Exit→St→Prop} {S:St} {c:Code} (h:WP P ds pn c (scQ Q) S):WP P ds pn (.scope c) Q S:=fun w0 I0 F I β a w hr =>
 oA_ (wpIn_mono (h w0 I0 F I β a w hr) fun e a w hh=>by
  cases e<;>first|exact hh|(obtain⟨S,I,β,h1,h2⟩:=hh;first|exact h1.elim|exact⟨S,I,β,h1,h2⟩))
@[simp] theorem EA_ {Q:Exit→St→Prop} {S:St}:scQ Q .ret S=Q .ret S:=rfl
@[simp] theorem Ah_ {Q:Exit→St→Prop} {S:St}:scQ Q .normal S=Q .normal S:=rfl
@[simp] theorem Dy_ {Q:Exit→St→Prop} {S:St} {id:Nat}:scQ Q (.exit id) S=Q (.exit id) S:=rfl
end Go.Xe
