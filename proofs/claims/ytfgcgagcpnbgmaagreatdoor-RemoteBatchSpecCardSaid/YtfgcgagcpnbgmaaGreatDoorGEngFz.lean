/-
  Joined texts.
-/
import Derived.Test.YtfgcgagcpnbgmaaGreatDoorG8
import Derived.Laws.Cover3
import Derived.Shelf.SlSortCmp.Whole1
import Derived.Shelf.SlSortCmp.InsertionK
import Derived.Shelf.SlSortCmp.NoneTotal
import Derived.Maps.Keyed
import Derived.Carry
set_option linter.all false
namespace Go.Xe
open Go.RowKit
variable [Glob]
theorem gh_ {P:Program} {w:World} {T E:TypeId} {x y:Operand} (hu:P.underlying T=some (.slice E)) (a:Option Addr) (l c:Nat) :
  (eqGuard .eql T x y (.slice a l c) (.slice none 0 0)).run P w=.ok () w∧(binOp .eql T (.slice a l c) (.slice none 0 0)).run P w=.ok (.bool a.isNone) w:=by
 refine⟨rfl,?_⟩
 simp only[binOp]
 simp[run_equal_slice_nil w T E a l c hu]
theorem jN_ {P:Program} {τ:Tab} (hτ:ay_ P τ) {ds:Dn} {pn:Pn} {o:Oper} {S:St} {T T' E:TypeId} {x y:Operand} {sz1 b1:Nat} {z1:List Value} (ho:o.op=.binOp .eql T x y T') (ht:τ T=some ⟨.slice E,sz1,b1,z1⟩)
  (hx:S.ev x=.d (.v (.slice none 0 0))) (hy:S.ev y=.d (.v (.slice none 0 0))) :
  LCore P ds pn o S ⟨.d (.v (.bool true)),[],[],[]⟩ []:=by
 intro S1 hs hf
 have ex:=hs.1 x (by simp[ho,Op.operands])
 have ey:=hs.1 y (by simp[ho,Op.operands])
 rw[← ex] at hx
 rw[← ey] at hy
 obtain⟨d,hu,hk⟩:=(hτ T _ ht).und
 simp only[TK.ok] at hk
 subst hk
 refine Core.value fun w0 I0 F I β a w hr=>⟨.bool true,?_,DenA_v.2 rfl⟩
 have hv:=hr.ev x
 have hv2:=hr.ev y
 rw[hx,DenA_v] at hv
 rw[hy,DenA_v] at hv2
 have h:=gh_ (w:=w) (x:=x) (y:=y) hu none 0 0
 simp[execOp,ho,hv,hv2,h.1,h.2]
theorem cv_ {P:Program} {τ:Tab} (hτ:ay_ P τ) {ds:Dn} {pn:Pn} {o:Oper} {S:St} {acc:List TI} {rest:St→List TI→Prop} {T T' E:TypeId} {x y:Operand} {sz1 b1:Nat} {z1:List Value} (ho:o.op=.binOp .eql T x y T') (ht:τ T=some ⟨.slice E,sz1,b1,z1⟩)
  (hx:S.ev x=.d (.v (.slice none 0 0))) (hy:S.ev y=.d (.v (.slice none 0 0)))
  (h:rest (S.app o.dst ⟨.d (.v (.bool true)),[],[],[]⟩) (⟨⟨.d (.v (.bool true)),[],[],[]⟩,[]⟩::acc)):vcStop P ds pn o rest S acc :=
 ⟨_,_,jN_ hτ ho ht hx hy,trivial,h⟩
end Go.Xe
namespace Go.Xe
open Go.RowKit Go.Sort Go.Shelf
variable [Glob]
section
variable {α:Type} [Inhabited α]
end
end Go.Xe
namespace Go.Xe
open Go.RowKit Go.Sort Go.Shelf
variable [Glob]
section
variable {α:Type} [Inhabited α]
end
end Go.Xe
namespace Go.Xe
open Go.RowKit
variable [Glob]
theorem ss_ {P:Program} {ds:Dn} {pn:Pn} {o:Oper} {S:St} {x y z:Operand} {ts:Array TypeId} (ho:o.op=.call ⟨.builtin .max,#[x,y,z],ts⟩)
  {k:IntKind} {a b c:Int} (hx:S.ev x=.d (.v (.int k a))) (hy:S.ev y=.d (.v (.int k b))) (hz:S.ev z=.d (.v (.int k c))) :
  LCore P ds pn o S ⟨.d (.v (.int k (max a (max b c)))),[],[],[]⟩ []:=by
 intro S1 hs hf
 have ex:=hs.1 x (by simp[ho,Op.operands,Call.operands])
 have ey:=hs.1 y (by simp[ho,Op.operands,Call.operands])
 have ez:=hs.1 z (by simp[ho,Op.operands,Call.operands])
 rw[← ex] at hx
 rw[← ey] at hy
 rw[← ez] at hz
 refine Core.value fun w0 I0 F I β A w hr=>⟨_,?_,DenA_v.2 rfl⟩
 have h1:=hr.ev x
 have h2:=hr.ev y
 have h3:=hr.ev z
 rw[hx,DenA_v] at h1
 rw[hy,DenA_v] at h2
 rw[hz,DenA_v] at h3
 obtain⟨C,hC⟩:=aG_ (P:=P) ho
 rw[hC]
 simp[builtin,Builtin.max_,h1,h2,h3,Builtin.max2]
 rw[Int.max_def,Int.max_def];repeat' (first|omega|split)
theorem oC_ {P:Program} {ds:Dn} {pn:Pn} {o:Oper} {S:St} {acc:List TI} {rest:St→List TI→Prop} {x y z:Operand} {ts:Array TypeId} (ho:o.op=.call ⟨.builtin .max,#[x,y,z],ts⟩)
  {k:IntKind} {a b c:Int} (hx:S.ev x=.d (.v (.int k a))) (hy:S.ev y=.d (.v (.int k b))) (hz:S.ev z=.d (.v (.int k c)))
  (h:rest (S.app o.dst ⟨.d (.v (.int k (max a (max b c)))),[],[],[]⟩) (⟨⟨.d (.v (.int k (max a (max b c)))),[],[],[]⟩,[]⟩::acc)):vcStop P ds pn o rest S acc :=
 ⟨_,_,ss_ ho hx hy hz,trivial,h⟩
end Go.Xe
namespace Go.Xe
open Go.RowKit
variable [Glob]
theorem gM_ {P:Program} {f:FuncId} {args:List D} {r:D} (sz:Nat) (b:Bool) (h0:Fn0 P f (.v (.slice none 0 0)::args) r) (h1:∀ ad cap,cap≤maxLen→Fn0 P f (.v (.slice (some ad) 0 cap)::args) r):Fn0 P f (.sl sz [] 0 b::args) r:=by
 intro w I β vs hm hd
 obtain⟨v,vs',rfl,hv,hr⟩:=hd
 have hv':Den w I (.sl sz [] 0 b) v:=hv
 obtain⟨a,cap,rfl,_,h2,_,_,h4,_⟩:=hv'
 cases a with
 | none =>
  obtain⟨_,rfl⟩:=h4 rfl
  exact h0 w I β _ hm ⟨_,_,rfl,rfl,hr⟩
 | some ad=>exact h1 ad cap h2 w I β _ hm ⟨_,_,rfl,rfl,hr⟩
theorem fk_ (ad:Addr) (cap sz:Nat) (h:cap≤maxLen):Leq (.d (.v (.slice (some ad) 0 cap))) (.d (.sl sz [] 0 false)):=fun w I β v hv=>by
 have hv:v=.slice (some ad) 0 cap:=hv
 exact⟨some ad,cap,hv,Nat.zero_le _,h,(fun h=>by cases h),(by simp),(fun h=>by cases h),fun _ _=>⟨fun h=>absurd h (Nat.lt_irrefl _),trivial⟩⟩
theorem oh_ {P:Program} {τ:Tab} (hτ:ay_ P τ) {ds:Dn} {pn:Pn} {o:Oper} {S:St} {T T' E:TypeId} {x y:Operand} {sz1 b1:Nat} {z1:List Value} (ho:o.op=.binOp .eql T x y T') (ht:τ T=some ⟨.slice E,sz1,b1,z1⟩)
  {ad:Addr} {n cap:Nat} (hx:S.ev x=.d (.v (.slice (some ad) n cap))) (hy:S.ev y=.d (.v (.slice none 0 0))) :
  LCore P ds pn o S ⟨.d (.v (.bool false)),[],[],[]⟩ []:=by
 intro S1 hs hf
 have ex:=hs.1 x (by simp[ho,Op.operands])
 have ey:=hs.1 y (by simp[ho,Op.operands])
 rw[← ex] at hx
 rw[← ey] at hy
 obtain⟨d,hu,hk⟩:=(hτ T _ ht).und
 simp only[TK.ok] at hk
 subst hk
 refine Core.value fun w0 I0 F I β a w hr=>⟨.bool false,?_,DenA_v.2 rfl⟩
 have hv:=hr.ev x
 have hv2:=hr.ev y
 rw[hx,DenA_v] at hv
 rw[hy,DenA_v] at hv2
 have h:=gh_ (w:=w) (x:=x) (y:=y) hu (some ad) n cap
 simp[execOp,ho,hv,hv2,h.1,h.2]
theorem dl_ {P:Program} {τ:Tab} (hτ:ay_ P τ) {ds:Dn} {pn:Pn} {o:Oper} {S:St} {acc:List TI} {rest:St→List TI→Prop} {T T' E:TypeId} {x y:Operand} {sz1 b1:Nat} {z1:List Value} (ho:o.op=.binOp .eql T x y T') (ht:τ T=some ⟨.slice E,sz1,b1,z1⟩)
  {ad:Addr} {n cap:Nat} (hx:S.ev x=.d (.v (.slice (some ad) n cap))) (hy:S.ev y=.d (.v (.slice none 0 0)))
  (h:rest (S.app o.dst ⟨.d (.v (.bool false)),[],[],[]⟩) (⟨⟨.d (.v (.bool false)),[],[],[]⟩,[]⟩::acc)):vcStop P ds pn o rest S acc :=
 ⟨_,_,oh_ hτ ho ht hx hy,trivial,h⟩
end Go.Xe
namespace Go.Xe
open Go.RowKit
variable [Glob]
theorem Rel.allocO {ds:Dn} {w0:World} {I0 F:Nat→Prop} {S:St} {I:Nat→Prop} {β:Nat→Value} {a:Act} {w:World} (hr:Rel ds w0 I0 F S I β a w)
  {k:Nat} (hf:S.has k=false) {o:Obj} {b:Box} {y:Value} (hy:∀ n,Blk y n→n=w.heap.size)
  (hb:BoxRel (w.alloc o) I (upd β k y) y b):Rel ds w0 I0 F ⟨S.sl,setB S.bx k b,S.df⟩ I (upd β k y) a (w.alloc o):=by
 have hk9:=ck_ hf
 have hf:=aK_ hf
 have hm:=hr.mem.world (Gb.alloc w o none) (r:=none) (by simp) (bx':=S.bx) (fun k b h=>⟨h,.inl rfl⟩)
 refine⟨hm.add hf.2 hb (fun n hn=>?_),DenAs.mono ⟨fun _ h=>h,fun n hn=>f1_ w _ n (hr.mem.im n hn)⟩ _ _ (fun j hj=>upd_other _ _ fun e=>?_) hr.sl,hr.dn,fun j hj=>(upd_other _ _ (by omega)).trans (hr.fx j hj)⟩
 ·have hn:=hy n hn
  subst hn
  refine⟨fun h=>?_,.inr hr.mem.sz,fun j c hc hj=>?_⟩
  ·have:=hr.mem.im _ h;omega
  ·have:=(hr.mem.bxs j c hc).lt hj;omega
 ·subst e;rw[hf.1] at hj;cases hj
theorem Dens.app {w:World} {I:Nat→Prop}:∀ {a b:List D} {vs us:List Value},Dens w I a vs→Dens w I b us→Dens w I (a++b) (vs++us)
 | [],_,_,_,h,h'=>by rw[Dens] at h;subst h;exact h'
 | _::_,_,_,_,h,h'=>by obtain⟨v,vs',rfl,h1,h2⟩:=h;exact⟨v,_,rfl,h1,Dens.app h2 h'⟩
theorem Dens.at {w:World} {I:Nat→Prop}:∀ {a:List D} {d:D} {b:List D} {vs:List Value},Dens w I (a++d::b) vs→∃ us v ts,vs=us++v::ts∧us.length=a.length∧Dens w I a us∧Den w I d v∧Dens w I b ts
 | [],d,b,vs,h=>by obtain⟨v,vs',rfl,h1,h2⟩:=h;exact⟨[],v,vs',rfl,rfl,rfl,h1,h2⟩
 | c::a,d,b,vs,h=>by
  obtain⟨u,vs',rfl,h1,h2⟩:=h
  obtain⟨us,v,ts,rfl,e,h3,h4,h5⟩:=Dens.at h2
  exact⟨u::us,v,ts,rfl,by simp[e],⟨u,us,rfl,h1,h3⟩,h4,h5⟩
end Go.Xe
namespace Go.Xe
open Go.RowKit
variable [Glob]
theorem lP_ {P:Program} {τ:Tab} (hτ:ay_ P τ) {ds:Dn} {pn:Pn} {o:Oper} {S:St} {T T' E:TypeId} {x y:Operand} {sz1 b1:Nat} {z1:List Value} (ho:o.op=.binOp .eql T x y T') (ht:τ T=some ⟨.slice E,sz1,b1,z1⟩)
  {sz n:Nat} {cs:List D} {full:Bool} (hx:S.ev x=.d (.sl sz cs n full)) (hy:S.ev y=.d (.v (.slice none 0 0))) (hn:0<n) :
  LCore P ds pn o S ⟨.d (.v (.bool false)),[],[],[]⟩ []:=by
 intro S1 hs hf
 have ex:=hs.1 x (by simp[ho,Op.operands])
 have ey:=hs.1 y (by simp[ho,Op.operands])
 rw[← ex] at hx
 rw[← ey] at hy
 obtain⟨d,hu,hk⟩:=(hτ T _ ht).und
 simp only[TK.ok] at hk
 subst hk
 refine Core.value fun w0 I0 F I β a w hr=>⟨.bool false,?_,DenA_v.2 rfl⟩
 have hv:=hr.ev x
 have hv2:=hr.ev y
 rw[hx,DenA,Den] at hv
 rw[hy,DenA_v] at hv2
 obtain⟨q,cap,hxe,_,_,_,_,hnil,_⟩:=hv
 cases q with
 | none=>have:=(hnil rfl).1;omega
 | some ad =>
  have h:=gh_ (w:=w) (x:=x) (y:=y) hu (some ad) n cap
  simp[execOp,ho,hxe,hv2,h.1,h.2]
theorem bI_ {P:Program} {τ:Tab} (hτ:ay_ P τ) {ds:Dn} {pn:Pn} {o:Oper} {S:St} {acc:List TI} {rest:St→List TI→Prop} {T T' E:TypeId} {x y:Operand} {sz1 b1:Nat} {z1:List Value} (ho:o.op=.binOp .eql T x y T') (ht:τ T=some ⟨.slice E,sz1,b1,z1⟩)
  {sz n:Nat} {cs:List D} {full:Bool} (hx:S.ev x=.d (.sl sz cs n full)) (hy:S.ev y=.d (.v (.slice none 0 0))) (hn:0<n)
  (h:rest (S.app o.dst ⟨.d (.v (.bool false)),[],[],[]⟩) (⟨⟨.d (.v (.bool false)),[],[],[]⟩,[]⟩::acc)):vcStop P ds pn o rest S acc :=
 ⟨_,_,lP_ hτ ho ht hx hy hn,trivial,h⟩
end Go.Xe
