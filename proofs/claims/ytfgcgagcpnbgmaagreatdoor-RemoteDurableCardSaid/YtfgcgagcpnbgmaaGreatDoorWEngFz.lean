/-
  Joined texts.
-/
import Derived.Test.YtfgcgagcpnbgmaaGreatDoorW8
import Derived.Laws.Cover3
import Derived.Shelf.SlSortCmp.Whole1
import Derived.Shelf.SlSortCmp.InsertionK
import Derived.Shelf.SlSortCmp.NoneTotal
import Derived.Maps.Keyed
import Derived.Carry
set_option linter.unusedVariables false
set_option linter.unusedSimpArgs false
set_option linter.unusedSectionVars false
namespace Go.Xe
open Go.RowKit
variable [Glob]
theorem fq_ {P:Program} {w:World} {T E:TypeId} {x y:Operand} (hu:P.underlying T=some (.slice E)) (a:Option Addr) (l c:Nat) :
  (eqGuard .eql T x y (.slice a l c) (.slice none 0 0)).run P w=.ok () w∧(binOp .eql T (.slice a l c) (.slice none 0 0)).run P w=.ok (.bool a.isNone) w:=by
 refine⟨rfl,?_⟩
 simp only[binOp]
 simp[run_equal_slice_nil w T E a l c hu]
theorem iV_ {P:Program} {τ:Tab} (hτ:aq_ P τ) {ds:Dn} {pn:Pn} {o:Oper} {S:St} {T T' E:TypeId} {x y:Operand} {sz1 b1:Nat} {z1:List Value} (ho:o.op=.binOp .eql T x y T') (ht:τ T=some ⟨.slice E,sz1,b1,z1⟩)
  (hx:S.ev x=.d (.v (.slice none 0 0))) (hy:S.ev y=.d (.v (.slice none 0 0))) :
  LCore P ds pn o S ⟨.d (.v (.bool true)),[],[],[]⟩ []:=by
 intro S1 hs hf
 have ex:=hs.1 x (by simp[ho,Op.operands])
 have ey:=hs.1 y (by simp[ho,Op.operands])
 rw[← ex] at hx
 rw[← ey] at hy
 obtain⟨d,hu,hk⟩:=(hτ T _ ht).und
 simp only[TK.ok] at hk
 subst hk
 refine Core.value fun w0 I0 F I β a w hr=>⟨.bool true,?_,DenA_v.2 rfl⟩
 have hv:=hr.ev x
 have hv2:=hr.ev y
 rw[hx,DenA_v] at hv
 rw[hy,DenA_v] at hv2
 have h:=fq_ (w:=w) (x:=x) (y:=y) hu none 0 0
 simp[execOp,ho,hv,hv2,h.1,h.2]
theorem bH_ {P:Program} {τ:Tab} (hτ:aq_ P τ) {ds:Dn} {pn:Pn} {o:Oper} {S:St} {acc:List TI} {rest:St→List TI→Prop} {T T' E:TypeId} {x y:Operand} {sz1 b1:Nat} {z1:List Value} (ho:o.op=.binOp .eql T x y T') (ht:τ T=some ⟨.slice E,sz1,b1,z1⟩)
  (hx:S.ev x=.d (.v (.slice none 0 0))) (hy:S.ev y=.d (.v (.slice none 0 0)))
  (h:rest (S.app o.dst ⟨.d (.v (.bool true)),[],[],[]⟩) (⟨⟨.d (.v (.bool true)),[],[],[]⟩,[]⟩::acc)):vcStop P ds pn o rest S acc :=
 ⟨_,_,iV_ hτ ho ht hx hy,trivial,h⟩
end Go.Xe
set_option linter.unusedVariables false
set_option linter.unusedSimpArgs false
set_option linter.unusedSectionVars false
namespace Go.Xe
open Go.RowKit Go.Sort Go.Shelf
variable [Glob]
section
variable {α:Type} [Inhabited α]
end
end Go.Xe
set_option linter.unusedVariables false
set_option linter.unusedSimpArgs false
set_option linter.unusedSectionVars false
namespace Go.Xe
open Go.RowKit Go.Sort Go.Shelf
variable [Glob]
section
variable {α:Type} [Inhabited α]
end
end Go.Xe
set_option linter.unusedVariables false
set_option linter.unusedSimpArgs false
set_option linter.unusedSectionVars false
namespace Go.Xe
open Go.RowKit
variable [Glob]
theorem q8_ {P:Program} {ds:Dn} {pn:Pn} {o:Oper} {S:St} {x y z:Operand} {ts:Array TypeId} (ho:o.op=.call ⟨.builtin .max,#[x,y,z],ts⟩)
  {k:IntKind} {a b c:Int} (hx:S.ev x=.d (.v (.int k a))) (hy:S.ev y=.d (.v (.int k b))) (hz:S.ev z=.d (.v (.int k c))) :
  LCore P ds pn o S ⟨.d (.v (.int k (max a (max b c)))),[],[],[]⟩ []:=by
 intro S1 hs hf
 have ex:=hs.1 x (by simp[ho,Op.operands,Call.operands])
 have ey:=hs.1 y (by simp[ho,Op.operands,Call.operands])
 have ez:=hs.1 z (by simp[ho,Op.operands,Call.operands])
 rw[← ex] at hx
 rw[← ey] at hy
 rw[← ez] at hz
 refine Core.value fun w0 I0 F I β A w hr=>⟨_,?_,DenA_v.2 rfl⟩
 have h1:=hr.ev x
 have h2:=hr.ev y
 have h3:=hr.ev z
 rw[hx,DenA_v] at h1
 rw[hy,DenA_v] at h2
 rw[hz,DenA_v] at h3
 obtain⟨C,hC⟩:=aw_ (P:=P) ho
 rw[hC]
 simp[builtin,Builtin.max_,h1,h2,h3,Builtin.max2]
 rw[Int.max_def,Int.max_def];repeat' (first|omega|split)
theorem m2_ {P:Program} {ds:Dn} {pn:Pn} {o:Oper} {S:St} {acc:List TI} {rest:St→List TI→Prop} {x y z:Operand} {ts:Array TypeId} (ho:o.op=.call ⟨.builtin .max,#[x,y,z],ts⟩)
  {k:IntKind} {a b c:Int} (hx:S.ev x=.d (.v (.int k a))) (hy:S.ev y=.d (.v (.int k b))) (hz:S.ev z=.d (.v (.int k c)))
  (h:rest (S.app o.dst ⟨.d (.v (.int k (max a (max b c)))),[],[],[]⟩) (⟨⟨.d (.v (.int k (max a (max b c)))),[],[],[]⟩,[]⟩::acc)):vcStop P ds pn o rest S acc :=
 ⟨_,_,q8_ ho hx hy hz,trivial,h⟩
end Go.Xe
set_option linter.unusedVariables false
set_option linter.unusedSimpArgs false
set_option linter.unusedSectionVars false
namespace Go.Xe
open Go.RowKit
variable [Glob]
theorem fS_ {P:Program} {f:FuncId} {args:List D} {r:D} (sz:Nat) (b:Bool) (h0:Fn0 P f (.v (.slice none 0 0)::args) r) (h1:∀ ad cap,cap≤maxLen→Fn0 P f (.v (.slice (some ad) 0 cap)::args) r):Fn0 P f (.sl sz [] 0 b::args) r:=by
 intro w I β vs hm hd
 obtain⟨v,vs',rfl,hv,hr⟩:=hd
 have hv':Den w I (.sl sz [] 0 b) v:=hv
 obtain⟨a,cap,rfl,_,h2,_,_,h4,_⟩:=hv'
 cases a with
 | none =>
  obtain⟨_,rfl⟩:=h4 rfl
  exact h0 w I β _ hm ⟨_,_,rfl,rfl,hr⟩
 | some ad=>exact h1 ad cap h2 w I β _ hm ⟨_,_,rfl,rfl,hr⟩
theorem eD_ (ad:Addr) (cap sz:Nat) (h:cap≤maxLen):Leq (.d (.v (.slice (some ad) 0 cap))) (.d (.sl sz [] 0 false)):=fun w I β v hv=>by
 have hv:v=.slice (some ad) 0 cap:=hv
 exact⟨some ad,cap,hv,Nat.zero_le _,h,(fun h=>by cases h),(by simp),(fun h=>by cases h),fun _ _=>⟨fun h=>absurd h (Nat.lt_irrefl _),trivial⟩⟩
theorem mJ_ {P:Program} {τ:Tab} (hτ:aq_ P τ) {ds:Dn} {pn:Pn} {o:Oper} {S:St} {T T' E:TypeId} {x y:Operand} {sz1 b1:Nat} {z1:List Value} (ho:o.op=.binOp .eql T x y T') (ht:τ T=some ⟨.slice E,sz1,b1,z1⟩)
  {ad:Addr} {n cap:Nat} (hx:S.ev x=.d (.v (.slice (some ad) n cap))) (hy:S.ev y=.d (.v (.slice none 0 0))) :
  LCore P ds pn o S ⟨.d (.v (.bool false)),[],[],[]⟩ []:=by
 intro S1 hs hf
 have ex:=hs.1 x (by simp[ho,Op.operands])
 have ey:=hs.1 y (by simp[ho,Op.operands])
 rw[← ex] at hx
 rw[← ey] at hy
 obtain⟨d,hu,hk⟩:=(hτ T _ ht).und
 simp only[TK.ok] at hk
 subst hk
 refine Core.value fun w0 I0 F I β a w hr=>⟨.bool false,?_,DenA_v.2 rfl⟩
 have hv:=hr.ev x
 have hv2:=hr.ev y
 rw[hx,DenA_v] at hv
 rw[hy,DenA_v] at hv2
 have h:=fq_ (w:=w) (x:=x) (y:=y) hu (some ad) n cap
 simp[execOp,ho,hv,hv2,h.1,h.2]
theorem cO_ {P:Program} {τ:Tab} (hτ:aq_ P τ) {ds:Dn} {pn:Pn} {o:Oper} {S:St} {acc:List TI} {rest:St→List TI→Prop} {T T' E:TypeId} {x y:Operand} {sz1 b1:Nat} {z1:List Value} (ho:o.op=.binOp .eql T x y T') (ht:τ T=some ⟨.slice E,sz1,b1,z1⟩)
  {ad:Addr} {n cap:Nat} (hx:S.ev x=.d (.v (.slice (some ad) n cap))) (hy:S.ev y=.d (.v (.slice none 0 0)))
  (h:rest (S.app o.dst ⟨.d (.v (.bool false)),[],[],[]⟩) (⟨⟨.d (.v (.bool false)),[],[],[]⟩,[]⟩::acc)):vcStop P ds pn o rest S acc :=
 ⟨_,_,mJ_ hτ ho ht hx hy,trivial,h⟩
end Go.Xe
set_option linter.unusedVariables false
set_option linter.unusedSimpArgs false
set_option linter.unusedSectionVars false
namespace Go.Xe
open Go.RowKit
variable [Glob]
theorem Rel.allocO {ds:Dn} {w0:World} {I0 F:Nat→Prop} {S:St} {I:Nat→Prop} {β:Nat→Value} {a:Act} {w:World} (hr:Rel ds w0 I0 F S I β a w)
  {k:Nat} (hf:S.has k=false) {o:Obj} {b:Box} {y:Value} (hy:∀ n,Blk y n→n=w.heap.size)
  (hb:BoxRel (w.alloc o) I (upd β k y) y b):Rel ds w0 I0 F ⟨S.sl,setB S.bx k b,S.df⟩ I (upd β k y) a (w.alloc o):=by
 have hk9:=b0_ hf
 have hf:=aF_ hf
 have hm:=hr.mem.world (Gb.alloc w o none) (r:=none) (by simp) (bx':=S.bx) (fun k b h=>⟨h,.inl rfl⟩)
 refine⟨hm.add hf.2 hb (fun n hn=>?_),DenAs.mono ⟨fun _ h=>h,fun n hn=>fa_ w _ n (hr.mem.im n hn)⟩ _ _ (fun j hj=>upd_other _ _ fun e=>?_) hr.sl,hr.dn,fun j hj=>(upd_other _ _ (by omega)).trans (hr.fx j hj)⟩
 ·have hn:=hy n hn
  subst hn
  refine⟨fun h=>?_,.inr hr.mem.sz,fun j c hc hj=>?_⟩
  ·have:=hr.mem.im _ h;omega
  ·have:=(hr.mem.bxs j c hc).lt hj;omega
 ·subst e;rw[hf.1] at hj;cases hj
theorem yb_ {g n:Nat} (h:Blk (.map (some g)) n):n=g:=(Blk.one rfl h)
theorem LCore.makeMap {P:Program} {dn:Dn} {pn:Pn} {o:Oper} {S:St} {T:TypeId} (ho:o.op=.makeMap T none) {k:Nat} (hk0:S.has k=false) :
  LCore P dn pn o S ⟨.row k,[],[],[(k,.mp [])]⟩ []:=by
 intro S1 hs hf
 have hk0:S1.has k=false:=hf _ (List.mem_singleton.2 rfl)
 refine Core.world fun w0 I0 F I β a w hr=>⟨.map (some w.heap.size),w.alloc (.map #[] 0),I,upd β k (.map (some w.heap.size)),?_,?_⟩
 ·simp[execOp,ho,run_makeMap]
 ·rw[dX_]
  refine Rel.put (hr.allocO (o:=.map #[] 0) (b:=.mp []) (y:=.map (some w.heap.size)) hk0 (fun n h=>yb_ h) ⟨_,#[],0,rfl,heap_alloc_new w _,rfl,rfl,MapKept.stamped_empty 0⟩) o.dst ?_
  rw[DenA]
  exact⟨(upd_same _ _ _).symm,.inr ⟨_,rfl⟩⟩
theorem vcStop.makeMap {P:Program} {dn:Dn} {pn:Pn} {o:Oper} {S:St} {acc:List TI} {rest:St→List TI→Prop} {T:TypeId} (k:Nat) (ho:o.op=.makeMap T none) (hk0:S.has k=false)
  (h:rest (S.app o.dst ⟨.row k,[],[],[(k,.mp [])]⟩) (⟨⟨.row k,[],[],[(k,.mp [])]⟩,[]⟩::acc)):vcStop P dn pn o rest S acc :=
 ⟨_,_,LCore.makeMap ho hk0,⟨hk0,trivial⟩,h⟩
def q6_ (kvs:List (Value×D)) (key:Value) (d:D) (kvs':List (Value×D)):Prop :=
 (∃ pre d0 post,kvs=pre++(key,d0)::post∧kvs'=pre++(key,d)::post)∨((∀ p∈kvs,p.1≠key)∧kvs'=kvs++[(key,d)])
def q9_ (kvs:List (Value×D)) (key:Value) (z d:D):Prop :=
 (∃ pre post,kvs=pre++(key,d)::post)∨((∀ p∈kvs,p.1≠key)∧d=z)
def iD_ (P:Program) (K:TypeId) (kvs:List (Value×D)):Prop:=∀ p∈kvs,∃ l,keyOf P K p.1=some l
theorem ji_ {es:Array MapEntry} {clock:Nat} {kvs:List (Value×D)} (hst:MapKept.Stamped es clock) (hk:es.toList.map (·.key)=kvs.map (·.1)):(kvs.map (·.1)).Nodup:=by rw[← hk];exact hst.2.2
theorem kh_ {α:Type}:∀ {pre post:List α} {x:α} {j:Nat},(pre++x::post).Nodup→(pre++x::post)[j]? = some x→j=pre.length
 | [],post,x,0,_,_=>rfl
 | [],post,x,j+1,h,hj=>by
  simp only[List.nil_append,List.nodup_cons] at h
  simp only[List.nil_append,List.getElem?_cons_succ] at hj
  exact absurd (List.mem_of_getElem? hj) h.1
 | y::pre,post,x,0,h,hj=>by
  simp only[List.cons_append,List.nodup_cons,List.getElem?_cons_zero,Option.some.injEq] at h hj
  subst hj
  exact absurd (by simp) h.1
 | y::pre,post,x,j+1,h,hj=>by
  simp only[List.cons_append,List.nodup_cons,List.getElem?_cons_succ] at h hj
  rw[kh_ h.2 hj];rfl
theorem Dens.app {w:World} {I:Nat→Prop}:∀ {a b:List D} {vs us:List Value},Dens w I a vs→Dens w I b us→Dens w I (a++b) (vs++us)
 | [],_,_,_,h,h'=>by rw[Dens] at h;subst h;exact h'
 | _::_,_,_,_,h,h'=>by obtain⟨v,vs',rfl,h1,h2⟩:=h;exact⟨v,_,rfl,h1,Dens.app h2 h'⟩
theorem Dens.at {w:World} {I:Nat→Prop}:∀ {a:List D} {d:D} {b:List D} {vs:List Value},Dens w I (a++d::b) vs→∃ us v ts,vs=us++v::ts∧us.length=a.length∧Dens w I a us∧Den w I d v∧Dens w I b ts
 | [],d,b,vs,h=>by obtain⟨v,vs',rfl,h1,h2⟩:=h;exact⟨[],v,vs',rfl,rfl,rfl,h1,h2⟩
 | c::a,d,b,vs,h=>by
  obtain⟨u,vs',rfl,h1,h2⟩:=h
  obtain⟨us,v,ts,rfl,e,h3,h4,h5⟩:=Dens.at h2
  exact⟨u::us,v,ts,rfl,by simp[e],⟨u,us,rfl,h1,h3⟩,h4,h5⟩
theorem gv_ {P:Program} {τ:Tab} (hτ:aq_ P τ) {dn:Dn} {pn:Pn} {o:Oper} {S:St} {T:TypeId} {m x:Operand} (ho:o.op=.lookup T m x false) {K E:TypeId} {sz1 b1:Nat} {z1:List Value} (ht:τ T=some ⟨.map K E,sz1,b1,z1⟩)
  (hK:Maps.Keyed P K) {zv:Value} (hz:∀ w,(zeroValue E).run P w=.ok zv w) {j:Nat} (hm:S.ev m=.row j) {kvs:List (Value×D)} (hb:getB S.bx j=some (.mp kvs)) {key:Value} (hx:Leq (S.ev x) (.d (.v key))) {d:D} {l:Lit} (hkey:keyOf P K key=some l) (hks:iD_ P K kvs)
  (hget:q9_ kvs key (.v zv) d):LCore P dn pn o S ⟨.d d,[],[],[]⟩ [j]:=by
 intro S1 hs _
 have em:=hs.1 m (by simp[ho,Op.operands])
 have ex:=hs.1 x (by simp[ho,Op.operands])
 rw[← em] at hm
 rw[← ex] at hx
 obtain⟨dd,hu,hk⟩:=(hτ T _ ht).und
 simp only[TK.ok] at hk
 subst hk
 have hb1:=(hs.2.2 j (by simp)).trans hb
 refine Core.value fun w0 I0 F I β a w hr=>?_
 obtain⟨g,es,clock,hβ,hg,hkeys,hvals,hst⟩:=hr.mem.bxs j _ hb1
 have hmv:=hr.ev m
 rw[hm,DenA] at hmv
 have hme:a.eval m=.map (some g):=hmv.1.trans hβ
 have hxe:a.eval x=key:=DenA_v.1 (hx _ _ _ _ (hr.ev x))
 have hes:∀ e∈es.toList,∃ l,keyOf P K e.key=some l:=fun e he=>by
  have:e.key∈kvs.map (·.1):=by rw[← hkeys];exact List.mem_map.2 ⟨e,he,rfl⟩
  obtain⟨p,hp,e1⟩:=List.mem_map.1 this
  rw[← e1];exact hks p hp
 rcases hK.find w hkey es.toList hes with⟨f1,f2⟩|⟨i,e0,f1,f2,f3⟩
 ·rcases hget with⟨pre,post,e1⟩|⟨_,rfl⟩
  ·have:key∈es.toList.map (·.key):=by rw[hkeys,e1];simp
   obtain⟨e,he,e2⟩:=List.mem_map.1 this
   exact (f2 e he e2).elim
  ·refine⟨zv,?_,DenA_v.2 rfl⟩
   simp[execOp,ho,hme,hxe,Instr.lookup,run_underlying hu,MapKept.run_getObj_map hg,hK.check w _ hkey,f1,hz,Result.andThen]
 ·have hmem:key∈kvs.map (·.1):=by rw[← hkeys];exact List.mem_map.2 ⟨e0,List.mem_of_getElem? f2,f3⟩
  rcases hget with⟨pre,post,rfl⟩|⟨hno,_⟩
  ·have hnd:=ji_ hst hkeys
   have hat:(es.toList.map (·.key))[i]? = some key:=by rw[List.getElem?_map,f2,Option.map_some,f3]
   have hi:i=pre.length:=by
    rw[hkeys] at hat
    simp only[List.map_append,List.map_cons] at hat hnd
    have:=kh_ hnd hat
    simpa using this
   refine⟨e0.val,?_,?_⟩
   ·simp[execOp,ho,hme,hxe,Instr.lookup,run_underlying hu,MapKept.run_getObj_map hg,hK.check w _ hkey,f1,Result.andThen]
   ·rw[DenA]
    simp only[List.map_append,List.map_cons] at hvals
    obtain⟨us,u,ts,e1,e2,h1,h2,h3⟩:=Dens.at hvals
    have hv:(es.toList.map (·.val))[i]? = some e0.val:=by rw[List.getElem?_map,f2];rfl
    rw[List.length_map] at e2
    rw[e1,hi,← e2] at hv
    simp at hv
    rw[← hv]
    exact h2
  ·obtain⟨p,hp,e1⟩:=List.mem_map.1 hmem
   exact (hno p hp e1).elim
theorem bh_ {P:Program} {τ:Tab} (hτ:aq_ P τ) {dn:Dn} {pn:Pn} {o:Oper} {S:St} {acc:List TI} {rest:St→List TI→Prop} {T:TypeId} {m x:Operand} (ho:o.op=.lookup T m x false) {K E:TypeId} {sz1 b1:Nat} {z1:List Value} (ht:τ T=some ⟨.map K E,sz1,b1,z1⟩)
  (hK:Maps.Keyed P K) {zv:Value} (hz:∀ w,(zeroValue E).run P w=.ok zv w) {j:Nat} (hm:S.ev m=.row j) {kvs:List (Value×D)} (hb:getB S.bx j=some (.mp kvs)) {key:Value} (hx:Leq (S.ev x) (.d (.v key))) (d:D) {l:Lit} (hkey:keyOf P K key=some l) (hks:iD_ P K kvs)
  (hget:q9_ kvs key (.v zv) d) (h:rest (S.put o.dst (.d d)) (⟨⟨.d d,[],[],[]⟩,[j]⟩::acc)):vcStop P dn pn o rest S acc :=
 ⟨_,_,gv_ hτ ho ht hK hz hm hb hx hkey hks hget,trivial,h⟩
theorem tS_ {P:Program} {τ:Tab} (hτ:aq_ P τ) {dn:Dn} {pn:Pn} {o:Oper} {g:Bool} {S:St} {acc:List TI} {rest:St→List TI→Prop} {T:TypeId} {m x:Operand} (ho:o.op=.lookup T m x false) {K E:TypeId} {sz1 b1:Nat} {z1:List Value} (ht:τ T=some ⟨.map K E,sz1,b1,z1⟩)
  (hK:Maps.Keyed P K) {zv:Value} (hz:∀ w,(zeroValue E).run P w=.ok zv w) {j:Nat} (hm:g=true→(S.under g).ev m=.row j) {kvs:List (Value×D)} (hb:getB S.bx j=some (.mp kvs)) {key:Value} (hx:g=true→Leq ((S.under g).ev x) (.d (.v key))) (d:D) {l:Lit} (hkey:keyOf P K key=some l) (hks:iD_ P K kvs)
  (hget:q9_ kvs key (.v zv) d) (h:rest (S.put o.dst (.when g (.d d))) (⟨⟨.when g (.d d),[],[],[]⟩,[j]⟩::acc)):vcStopG P dn pn o rest g S acc :=
 ⟨_,_,fun hg=>gv_ hτ ho ht hK hz (hm hg) (show getB (S.under g).bx j=_ from hb) (hx hg) hkey hks hget,h⟩
end Go.Xe
set_option linter.unusedVariables false
set_option linter.unusedSimpArgs false
set_option linter.unusedSectionVars false
namespace Go.Xe
open Go.RowKit
variable [Glob]
theorem Rel.freezeDrop {dn:Dn} {w0:World} {I0 F:Nat→Prop} {S:St} {I:Nat→Prop} {β:Nat→Value} {a:Act} {w:World} (hr:Rel dn w0 I0 F S I β a w) {k:Nat} {T:TypeId} {sz n:Nat} {ds:List D} (hb:getB S.bx k=some (.row T sz n (ds.map .d))) :
  ∃ I',Rel dn w0 I0 F ⟨S.sl,delB S.bx k,S.df⟩ I' β a w∧Den w I' (.sl sz ds n false) (β k):=by
 obtain⟨us,how,hd,ho⟩:=hr.mem.bxs k _ hb
 let I':Nat→Prop:=fun m=>I m∨Blk (β k) m
 have hk:Kept w I w I':=⟨fun _ h=>.inl h,fun _ _=>rfl⟩
 have hget:∀ j b,getB (delB S.bx k) j=some b→j≠k∧getB S.bx j=some b:=fun j b h=>by
  rw[getB_del] at h
  split at h
  ·cases h
  ·rename_i hne;exact⟨fun e=>hne e.symm,h⟩
 refine⟨I',⟨⟨fun j b h=>?_,fun j b m h hm=>?_,fun i j b c m h1 h2 hi hj=>?_,fun m hm=>?_,fun m hm=>?_,hr.mem.kept.trans hk,hr.mem.fr,hr.mem.sz,hr.mem.os,hr.mem.tape,hr.mem.out,hr.mem.dr,hr.mem.gl⟩,DenAs.mono hk _ _ (fun _ _=>rfl) hr.sl,hr.dn,hr.fx⟩,?_⟩
 ·exact (hr.mem.bxs j b (hget j b h).2).mono hk (fun _ _=>rfl) fun _ _=>rfl
 ·obtain⟨hne,hj⟩:=hget j b h
  refine⟨?_,(hr.mem.sep j b m hj hm).2⟩
  rintro (hI|hkm)
  ·exact (hr.mem.sep j b m hj hm).1 hI
  ·exact hne (hr.mem.inj j k b _ m hj hb hm hkm)
 ·exact hr.mem.inj i j b c m (hget i b h1).2 (hget j c h2).2 hi hj
 ·rcases hm with hm|hm
  ·exact hr.mem.im m hm
  ·exact (hr.mem.bxs k _ hb).lt hm
 ·rcases hm with hm|hm
  ·exact hr.mem.inew m hm
  ·exact .inr (hr.mem.sep k _ m hb hm).2
 ·have hl:ds.length=n*sz:=by have:=hd.length;rw[List.length_map] at this;rw[this];exact how.1
  rcases how.2 with⟨hn,rfl⟩|⟨g,cap,cur,hy,_,_,hnc,hcm,_⟩
  ·rw[hn,Den];exact⟨none,0,rfl,Nat.le_refl _,Nat.zero_le _,by simp,hl,fun _=>⟨rfl,rfl⟩,by simp⟩
  ·have hc:=how.cells (g:=g) (by rw[hy];rfl)
   have hat:DenAt w I' ds g 0:=by
    refine DenAt.of_dens (vs:=us) (.inr (by rw[hy];exact .inl rfl)) (Dens.mono hk _ _ hd.to_dens) ho fun j v hj=>?_
    have:=hc j v hj
    rwa[Addr.add_lit] at this
   rw[hy,Den]
   refine⟨some ⟨g,0,none⟩,cap,rfl,hnc,hcm,by simp,hl,by simp,fun ad had=>?_⟩
   cases had
   exact⟨fun _=>rfl,hat⟩
theorem qx_ {P:Program} {dn:Dn} {o:Oper} {S1:St} {T:TypeId} {m x v:Operand} (ho:o.op=.mapUpdate T m x v) {K E:TypeId} (hu:P.underlying T=some (.map K E))
  (hK:Maps.Keyed P K) {j:Nat} (hm:S1.ev m=.row j) {kvs kvs':List (Value×D)} (hb1:getB S1.bx j=some (.mp kvs)) {key:Value} {d:D} {l:Lit} (hkey:keyOf P K key=some l) (hks:iD_ P K kvs)
  (hput:q6_ kvs key d kvs') {w0:World} {I0 F I:Nat→Prop} {β:Nat→Value} {a:Act} {w:World} (hr:Rel dn w0 I0 F S1 I β a w) (hxe:a.eval x=key) (hvd:Den w I d (a.eval v)) :
  ∃ w' I' β',(execOp a.eval o).run P w=.ok .skip w'∧Rel dn w0 I0 F (S1.app o.dst ⟨.d .any,[],[(j,.mp kvs')],[]⟩) I' β' (a.put o.dst undef) w':=by
 obtain⟨g,es,clock,hβ,hg,hkeys,hvals,hst⟩:=hr.mem.bxs j _ hb1
 have hmv:=hr.ev m
 rw[hm,DenA] at hmv
 have hme:a.eval m=.map (some g):=hmv.1.trans hβ
 have hblk:blk (β j)=some g:=by rw[hβ];rfl
 have hnI:¬ I g:=(hr.mem.sep j _ g hb1 (.inl hblk)).1
 have hes:∀ e∈es.toList,∃ l,keyOf P K e.key=some l:=fun e he=>by
  have:e.key∈kvs.map (·.1):=by rw[← hkeys];exact List.mem_map.2 ⟨e,he,rfl⟩
  obtain⟨p,hp,e1⟩:=List.mem_map.1 this
  rw[← e1];exact hks p hp
 have done:∀ es' clock',(Instr.mapUpdate T (.map (some g)) key (a.eval v)).run P w=.ok () (ChangeMaps.setBlock w g (.map es' clock'))→es'.toList.map (·.key)=kvs'.map (·.1) →
   Dens w I (kvs'.map (·.2)) (es'.toList.map (·.val))→MapKept.Stamped es' clock'→∃ w' I' β',(execOp a.eval o).run P w=.ok .skip w'∧Rel dn w0 I0 F (S1.app o.dst ⟨.d .any,[],[(j,.mp kvs')],[]⟩) I' β' (a.put o.dst undef) w':=fun es' clock' hrun h1 h2 h3=>by
  have hgb:Gb w (ChangeMaps.setBlock w g (.map es' clock')) (some g):=⟨⟨rfl,rfl,rfl,by simp[ChangeMaps.setBlock],fun i _ hi=>ChangeMaps.heap_setBlock_other hg _ (fun e=>hi (by rw[e]))⟩,Nat.le_refl _⟩
  have hkp:Kept w I (ChangeMaps.setBlock w g (.map es' clock')) I:=⟨fun _ h=>h,fun n hn=>ChangeMaps.heap_setBlock_other hg _ (fun e=>hnI (e▸hn))⟩
  refine⟨ChangeMaps.setBlock w g (.map es' clock'),I,β,by simp[execOp,ho,hme,hxe,hrun],?_⟩
  rw[bQ_]
  exact Rel.put (S:=⟨S1.sl,setB S1.bx j (.mp kvs'),S1.df⟩) (w:=ChangeMaps.setBlock w g (.map es' clock')) ⟨hr.mem.turn (b':=.mp kvs') hb1 (by rw[hblk];exact hgb) ⟨g,es',clock',hβ,ChangeMaps.heap_setBlock_same hg _,h1,Dens.mono hkp _ _ h2,h3⟩,DenAs.mono hkp _ _ (fun _ _=>rfl) hr.sl,hr.dn,hr.fx⟩ o.dst (aW_ _ _ _ _)
 rcases hK.find w hkey es.toList hes with⟨f1,f2⟩|⟨i,e0,f1,f2,f3⟩
 ·rcases hput with⟨pre,d0,post,e1,_⟩|⟨_,rfl⟩
  ·have:key∈es.toList.map (·.key):=by rw[hkeys,e1];simp
   obtain⟨e,he,e2⟩:=List.mem_map.1 this
   exact (f2 e he e2).elim
  ·refine done (es.push ⟨key,a.eval v,clock⟩) (clock+1) ?_ ?_ ?_ (MapKept.stamped_push hst f2)
   ·simp[Instr.mapUpdate,run_underlying hu,MapKept.run_getObj_map hg,hK.check w false hkey,f1,MapKept.run_setObj_map _ hg,Result.andThen,ChangeMaps.setBlock]
   ·simp[hkeys]
   ·simp only[Array.toList_push,List.map_append,List.map_cons,List.map_nil]
    exact hvals.app ⟨_,[],rfl,hvd,rfl⟩
 ·have hmem:key∈kvs.map (·.1):=by rw[← hkeys];exact List.mem_map.2 ⟨e0,List.mem_of_getElem? f2,f3⟩
  rcases hput with⟨pre,d0,post,rfl,rfl⟩|⟨hno,_⟩
  ·have hnd:=ji_ hst hkeys
   have hat:(es.toList.map (·.key))[i]? = some key:=by rw[List.getElem?_map,f2,Option.map_some,f3]
   have hi:i=pre.length:=by
    rw[hkeys] at hat
    simp only[List.map_append,List.map_cons] at hat hnd
    have:=kh_ hnd hat
    simpa using this
   have hj:es[i]? = some e0:=by simpa using f2
   have hlist:(es.modify i (fun e'=>{ e' with key:=key,val:=a.eval v })).toList=es.toList.set i { e0 with key:=key,val:=a.eval v }:=by
    rw[Array.toList_modify]
    apply List.ext_getElem?
    intro q
    rw[List.getElem?_modify,List.getElem?_set]
    by_cases h:i=q
    ·subst h
     have hlt:i<es.toList.length:=(List.getElem?_eq_some_iff.1 f2).1
     have hlt':i<es.size:=by simpa using hlt
     simp[f2,hlt] at f2 ⊢
     exact hlt'
    ·simp[h]
   have hkeyf:∀ e'∈es.toList,es[i]? = some e'→({ e' with key:=key,val:=a.eval v }:MapEntry).key=e'.key:=fun e' _ he'=>by rw[hj] at he';cases he';exact f3.symm
   refine done (es.modify i (fun e'=>{ e' with key:=key,val:=a.eval v })) clock ?_ ?_ ?_ (MapKept.stamped_modify hst _ _ (fun _ _=>rfl) hkeyf)
   ·simp[Instr.mapUpdate,run_underlying hu,MapKept.run_getObj_map hg,hK.check w false hkey,f1,hj,f3,hK.stays w hkey,MapKept.run_setObj_map _ hg,Result.andThen,ChangeMaps.setBlock]
   ·rw[hlist,List.map_set,hkeys,hi]
    simp
   ·simp only[List.map_append,List.map_cons] at hvals
    obtain⟨us,u,ts,e1,e2,h1,h2,h3⟩:=Dens.at hvals
    rw[hlist,List.map_set,e1,hi]
    rw[List.length_map] at e2
    rw[← e2]
    simp only[List.map_append,List.map_cons]
    rw[List.set_append_right _ _ (Nat.le_refl _),Nat.sub_self,List.set_cons_zero]
    exact h1.app ⟨_,_,rfl,hvd,h3⟩
  ·obtain⟨p,hp,e1⟩:=List.mem_map.1 hmem
   exact (hno p hp e1).elim
theorem iB_ {P:Program} {τ:Tab} (hτ:aq_ P τ) {dn:Dn} {pn:Pn} {o:Oper} {S:St} {T:TypeId} {m x v:Operand} (ho:o.op=.mapUpdate T m x v) {K E:TypeId} {sz1 b1:Nat} {z1:List Value} (ht:τ T=some ⟨.map K E,sz1,b1,z1⟩)
  (hK:Maps.Keyed P K) {j:Nat} (hm:S.ev m=.row j) {kvs kvs':List (Value×D)} (hb:getB S.bx j=some (.mp kvs)) {key:Value} (hx:Leq (S.ev x) (.d (.v key))) {k:Nat} (hkj:k≠j) (hv:S.ev v=.row k) {T2:TypeId} {sz n:Nat} {ds:List D} (hbk:getB S.bx k=some (.row T2 sz n (ds.map .d)))
  {l:Lit} (hkey:keyOf P K key=some l) (hks:iD_ P K kvs) (hput:q6_ kvs key (.sl sz ds n false) kvs'):LCore P dn pn o S ⟨.d .any,[k],[(j,.mp kvs')],[]⟩ [j,k]:=by
 intro S1 hs _
 have em:=hs.1 m (by simp[ho,Op.operands])
 have ex:=hs.1 x (by simp[ho,Op.operands])
 have ev:=hs.1 v (by simp[ho,Op.operands])
 rw[← em] at hm
 rw[← ex] at hx
 rw[← ev] at hv
 obtain⟨dd,hu,hk⟩:=(hτ T _ ht).und
 simp only[TK.ok] at hk
 subst hk
 have hb1:=(hs.2.2 j (by simp)).trans hb
 have hbk1:=(hs.2.2 k (by simp)).trans hbk
 refine Core.skip fun w0 I0 F I β a w hr=>?_
 have hxe:a.eval x=key:=DenA_v.1 (hx _ _ _ _ (hr.ev x))
 have hvv:=hr.ev v
 rw[hv,DenA] at hvv
 obtain⟨I',hr',hd⟩:=hr.freezeDrop hbk1
 exact qx_ (S1:=⟨S1.sl,delB S1.bx k,S1.df⟩) ho hu hK (by rw[← hm];cases m<;>rfl) (by rw[getB_del,if_neg hkj];exact hb1) hkey hks hput hr' hxe (by rw[hvv.1];exact hd)
theorem da_ {P:Program} {τ:Tab} (hτ:aq_ P τ) {dn:Dn} {pn:Pn} {o:Oper} {S:St} {acc:List TI} {rest:St→List TI→Prop} {T:TypeId} {m x v:Operand} (ho:o.op=.mapUpdate T m x v) {K E:TypeId} {sz1 b1:Nat} {z1:List Value} (ht:τ T=some ⟨.map K E,sz1,b1,z1⟩)
  (hK:Maps.Keyed P K) {j:Nat} (hm:S.ev m=.row j) {kvs:List (Value×D)} (kvs':List (Value×D)) (hb:getB S.bx j=some (.mp kvs)) {key:Value} (hx:Leq (S.ev x) (.d (.v key))) {k:Nat} (hkj:k≠j) (hv:S.ev v=.row k) {T2:TypeId} {sz n:Nat} {ds:List D} (hbk:getB S.bx k=some (.row T2 sz n (ds.map .d)))
  {l:Lit} (hkey:keyOf P K key=some l) (hks:iD_ P K kvs) (hput:q6_ kvs key (.sl sz ds n false) kvs')
  (h:rest (S.app o.dst ⟨.d .any,[k],[(j,.mp kvs')],[]⟩) (⟨⟨.d .any,[k],[(j,.mp kvs')],[]⟩,[j,k]⟩::acc)):vcStop P dn pn o rest S acc :=
 ⟨_,_,iB_ hτ ho ht hK hm hb hx hkj hv hbk hkey hks hput,trivial,h⟩
theorem kU_ {P:Program} {τ:Tab} (hτ:aq_ P τ) {ds:Dn} {pn:Pn} {o:Oper} {S:St} {T T' E:TypeId} {x y:Operand} {sz1 b1:Nat} {z1:List Value} (ho:o.op=.binOp .eql T x y T') (ht:τ T=some ⟨.slice E,sz1,b1,z1⟩)
  {sz n:Nat} {cs:List D} {full:Bool} (hx:S.ev x=.d (.sl sz cs n full)) (hy:S.ev y=.d (.v (.slice none 0 0))) (hn:0<n) :
  LCore P ds pn o S ⟨.d (.v (.bool false)),[],[],[]⟩ []:=by
 intro S1 hs hf
 have ex:=hs.1 x (by simp[ho,Op.operands])
 have ey:=hs.1 y (by simp[ho,Op.operands])
 rw[← ex] at hx
 rw[← ey] at hy
 obtain⟨d,hu,hk⟩:=(hτ T _ ht).und
 simp only[TK.ok] at hk
 subst hk
 refine Core.value fun w0 I0 F I β a w hr=>⟨.bool false,?_,DenA_v.2 rfl⟩
 have hv:=hr.ev x
 have hv2:=hr.ev y
 rw[hx,DenA,Den] at hv
 rw[hy,DenA_v] at hv2
 obtain⟨q,cap,hxe,_,_,_,_,hnil,_⟩:=hv
 cases q with
 | none=>have:=(hnil rfl).1;omega
 | some ad =>
  have h:=fq_ (w:=w) (x:=x) (y:=y) hu (some ad) n cap
  simp[execOp,ho,hxe,hv2,h.1,h.2]
theorem a7_ {P:Program} {τ:Tab} (hτ:aq_ P τ) {ds:Dn} {pn:Pn} {o:Oper} {S:St} {acc:List TI} {rest:St→List TI→Prop} {T T' E:TypeId} {x y:Operand} {sz1 b1:Nat} {z1:List Value} (ho:o.op=.binOp .eql T x y T') (ht:τ T=some ⟨.slice E,sz1,b1,z1⟩)
  {sz n:Nat} {cs:List D} {full:Bool} (hx:S.ev x=.d (.sl sz cs n full)) (hy:S.ev y=.d (.v (.slice none 0 0))) (hn:0<n)
  (h:rest (S.app o.dst ⟨.d (.v (.bool false)),[],[],[]⟩) (⟨⟨.d (.v (.bool false)),[],[],[]⟩,[]⟩::acc)):vcStop P ds pn o rest S acc :=
 ⟨_,_,kU_ hτ ho ht hx hy hn,trivial,h⟩
theorem jE_ {P:Program} {ds:Dn} {pn:Pn} {o:Oper} {S:St} {acc:List TI} {rest:St→List TI→Prop} {fx:Operand} {args:Array Operand} {ts:Array TypeId} {l:Nat} {xs:List D}
  {p p':Value→World→(Nat→Prop)→Prop} {b:Bool} (hy:YieldOk P l xs p p' b) (k k':Nat) (ho:o.op=.call ⟨.value fx,args,ts⟩) (hf:S.ev fx=.d (.v (.func (.yield l) #[] #[])))
  (hargs:LeqL (args.toList.map S.ev) (xs.map .d)) (hk:getB S.bx k=some (.opq p)) (hne:k≠k') (hfr:S.has k'=false)
  (h:rest (S.app o.dst ⟨.d (.v (.bool b)),[k],[],[(k',.opq p')]⟩) (⟨⟨.d (.v (.bool b)),[k],[],[(k',.opq p')]⟩,[k]⟩::acc)):vcStop P ds pn o rest S acc:=by
 have hL:=LCore.yield (ds:=ds) (pn:=pn) ho hf hy (fun t=>if t=1999 then k else if t=0 then k' else 5000+t) hargs
  ⟨by simp,by simp;exact⟨_,hk,rfl⟩,by simp[getB],fun i j hi hj e=>?_,by simp[aM_,Box.cs,as_]⟩
 ·have e:callE (fun t=>if t=1999 then k else if t=0 then k' else 5000+t) [(1999,.opq p)] [(0,.opq p')] (.d (.v (.bool b)))=⟨.d (.v (.bool b)),[k],[],[(k',.opq p')]⟩:=rfl
  rw[e] at hL
  exact⟨_,_,hL,⟨hfr,trivial⟩,h⟩
 ·have l:∀ i,(isIn [(1999,Box.opq p)] i=true∨isIn [(0,Box.opq p')] i=true)→i=1999∨i=0:=fun i h=>by
   rcases h with h|h<;>simp only[isIn,getB] at h<;>split at h<;>first|omega|cases h
  rcases l i hi with rfl|rfl<;>rcases l j hj with rfl|rfl<;>simp at e ⊢
  ·exact hne e
  ·exact hne e.symm
end Go.Xe
