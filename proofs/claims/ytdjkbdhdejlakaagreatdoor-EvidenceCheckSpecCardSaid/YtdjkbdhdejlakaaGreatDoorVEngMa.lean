/-
  The engine, part Ma. Maps: made, written, asked.
-/
import Derived.Test.YtdjkbdhdejlakaaGreatDoorV8
import Derived.Maps.Keyed
import Derived.Carry
set_option linter.unusedVariables false
set_option linter.unusedSimpArgs false
set_option linter.unusedSectionVars false
namespace Go.Xe
open Go.RowKit
variable [Glob]
theorem Rel.allocO {ds:Dn} {w0:World} {I0 F:Nat→Prop} {S:St} {I:Nat→Prop} {β:Nat→Value} {a:Act} {w:World} (hr:Rel ds w0 I0 F S I β a w)
  {k:Nat} (hf:S.has k=false) {o:Obj} {b:Box} {y:Value} (hy:∀ n,Blk y n→n=w.heap.size)
  (hb:BoxRel (w.alloc o) I (upd β k y) y b):Rel ds w0 I0 F ⟨S.sl,setB S.bx k b,S.df⟩ I (upd β k y) a (w.alloc o):=by
 have hk9:=bY_ hf
 have hf:=aG_ hf
 have hm:=hr.mem.world (Gb.alloc w o none) (r:=none) (by simp) (bx':=S.bx) (fun k b h=>⟨h,.inl rfl⟩)
 refine⟨hm.add hf.2 hb (fun n hn=>?_),DenAs.mono ⟨fun _ h=>h,fun n hn=>c5_ w _ n (hr.mem.im n hn)⟩ _ _ (fun j hj=>upd_other _ _ fun e=>?_) hr.sl,hr.dn,fun j hj=>(upd_other _ _ (by omega)).trans (hr.fx j hj)⟩
 ·have hn:=hy n hn
  subst hn
  refine⟨fun h=>?_,.inr hr.mem.sz,fun j c hc hj=>?_⟩
  ·have:=hr.mem.im _ h;omega
  ·have:=(hr.mem.bxs j c hc).lt hj;omega
 ·subst e;rw[hf.1] at hj;cases hj
theorem yN_ {g n:Nat} (h:Blk (.map (some g)) n):n=g:=(Blk.one rfl h)
theorem LCore.makeMap {P:Program} {dn:Dn} {pn:Pn} {o:Oper} {S:St} {T:TypeId} (ho:o.op=.makeMap T none) {k:Nat} (hk0:S.has k=false) :
  LCore P dn pn o S ⟨.row k,[],[],[(k,.mp [])]⟩ []:=by
 intro S1 hs hf
 have hk0:S1.has k=false:=hf _ (List.mem_singleton.2 rfl)
 refine Core.world fun w0 I0 F I β a w hr=>⟨.map (some w.heap.size),w.alloc (.map #[] 0),I,upd β k (.map (some w.heap.size)),?_,?_⟩
 ·simp[execOp,ho,run_makeMap]
 ·rw[ep_]
  refine Rel.put (hr.allocO (o:=.map #[] 0) (b:=.mp []) (y:=.map (some w.heap.size)) hk0 (fun n h=>yN_ h) ⟨_,#[],0,rfl,heap_alloc_new w _,rfl,rfl,MapKept.stamped_empty 0⟩) o.dst ?_
  rw[DenA]
  exact⟨(upd_same _ _ _).symm,.inr ⟨_,rfl⟩⟩
theorem vcStop.makeMap {P:Program} {dn:Dn} {pn:Pn} {o:Oper} {S:St} {acc:List TI} {rest:St→List TI→Prop} {T:TypeId} (k:Nat) (ho:o.op=.makeMap T none) (hk0:S.has k=false)
  (h:rest (S.app o.dst ⟨.row k,[],[],[(k,.mp [])]⟩) (⟨⟨.row k,[],[],[(k,.mp [])]⟩,[]⟩::acc)):vcStop P dn pn o rest S acc :=
 ⟨_,_,LCore.makeMap ho hk0,⟨hk0,trivial⟩,h⟩
def iU_ (kvs:List (Value×D)) (key:Value) (d:D) (kvs':List (Value×D)):Prop :=
 (∃ pre d0 post,kvs=pre++(key,d0)::post∧kvs'=pre++(key,d)::post)∨((∀ p∈kvs,p.1≠key)∧kvs'=kvs++[(key,d)])
def jt_ (kvs:List (Value×D)) (key:Value) (z d:D):Prop :=
 (∃ pre post,kvs=pre++(key,d)::post)∨((∀ p∈kvs,p.1≠key)∧d=z)
def c8_ (P:Program) (K:TypeId) (kvs:List (Value×D)):Prop:=∀ p∈kvs,∃ l,keyOf P K p.1=some l
theorem gf_ {es:Array MapEntry} {clock:Nat} {kvs:List (Value×D)} (hst:MapKept.Stamped es clock) (hk:es.toList.map (·.key)=kvs.map (·.1)):(kvs.map (·.1)).Nodup:=by rw[← hk];exact hst.2.2
theorem hp_ {α:Type}:∀ {pre post:List α} {x:α} {j:Nat},(pre++x::post).Nodup→(pre++x::post)[j]? = some x→j=pre.length
 | [],post,x,0,_,_=>rfl
 | [],post,x,j+1,h,hj=>by
  simp only[List.nil_append,List.nodup_cons] at h
  simp only[List.nil_append,List.getElem?_cons_succ] at hj
  exact absurd (List.mem_of_getElem? hj) h.1
 | y::pre,post,x,0,h,hj=>by
  simp only[List.cons_append,List.nodup_cons,List.getElem?_cons_zero,Option.some.injEq] at h hj
  subst hj
  exact absurd (by simp) h.1
 | y::pre,post,x,j+1,h,hj=>by
  simp only[List.cons_append,List.nodup_cons,List.getElem?_cons_succ] at h hj
  rw[hp_ h.2 hj];rfl
theorem Dens.app {w:World} {I:Nat→Prop}:∀ {a b:List D} {vs us:List Value},Dens w I a vs→Dens w I b us→Dens w I (a++b) (vs++us)
 | [],_,_,_,h,h'=>by rw[Dens] at h;subst h;exact h'
 | _::_,_,_,_,h,h'=>by obtain⟨v,vs',rfl,h1,h2⟩:=h;exact⟨v,_,rfl,h1,Dens.app h2 h'⟩
theorem Dens.at {w:World} {I:Nat→Prop}:∀ {a:List D} {d:D} {b:List D} {vs:List Value},Dens w I (a++d::b) vs→∃ us v ts,vs=us++v::ts∧us.length=a.length∧Dens w I a us∧Den w I d v∧Dens w I b ts
 | [],d,b,vs,h=>by obtain⟨v,vs',rfl,h1,h2⟩:=h;exact⟨[],v,vs',rfl,rfl,rfl,h1,h2⟩
 | c::a,d,b,vs,h=>by
  obtain⟨u,vs',rfl,h1,h2⟩:=h
  obtain⟨us,v,ts,rfl,e,h3,h4,h5⟩:=Dens.at h2
  exact⟨u::us,v,ts,rfl,by simp[e],⟨u,us,rfl,h1,h3⟩,h4,h5⟩
theorem nr_ {P:Program} {τ:Tab} (hτ:aq_ P τ) {dn:Dn} {pn:Pn} {o:Oper} {S:St} {T:TypeId} {m x v:Operand} (ho:o.op=.mapUpdate T m x v) {K E:TypeId} {sz1 b1:Nat} {z1:List Value} (ht:τ T=some ⟨.map K E,sz1,b1,z1⟩)
  (hK:Maps.Keyed P K) {j:Nat} (hm:S.ev m=.row j) {kvs kvs':List (Value×D)} (hb:getB S.bx j=some (.mp kvs)) {key:Value} (hx:Leq (S.ev x) (.d (.v key))) {d:D} (hv:Leq (S.ev v) (.d d)) {l:Lit} (hkey:keyOf P K key=some l) (hks:c8_ P K kvs)
  (hput:iU_ kvs key d kvs'):LCore P dn pn o S ⟨.d .any,[],[(j,.mp kvs')],[]⟩ [j]:=by
 intro S1 hs _
 have em:=hs.1 m (by simp[ho,Op.operands])
 have ex:=hs.1 x (by simp[ho,Op.operands])
 have ev:=hs.1 v (by simp[ho,Op.operands])
 rw[← em] at hm
 rw[← ex] at hx
 rw[← ev] at hv
 obtain⟨dd,hu,hk⟩:=(hτ T _ ht).und
 simp only[TK.ok] at hk
 subst hk
 have hb1:=(hs.2.2 j (by simp)).trans hb
 refine Core.skip fun w0 I0 F I β a w hr=>?_
 obtain⟨g,es,clock,hβ,hg,hkeys,hvals,hst⟩:=hr.mem.bxs j _ hb1
 have hmv:=hr.ev m
 rw[hm,DenA] at hmv
 have hme:a.eval m=.map (some g):=hmv.1.trans hβ
 have hxe:a.eval x=key:=DenA_v.1 (hx _ _ _ _ (hr.ev x))
 have hvd:Den w I d (a.eval v):=by have:=hv _ _ _ _ (hr.ev v);rwa[DenA] at this
 have hblk:blk (β j)=some g:=by rw[hβ];rfl
 have hnI:¬ I g:=(hr.mem.sep j _ g hb1 (.inl hblk)).1
 have hes:∀ e∈es.toList,∃ l,keyOf P K e.key=some l:=fun e he=>by
  have:e.key∈kvs.map (·.1):=by rw[← hkeys];exact List.mem_map.2 ⟨e,he,rfl⟩
  obtain⟨p,hp,e1⟩:=List.mem_map.1 this
  rw[← e1];exact hks p hp
 have done:∀ es' clock',(Instr.mapUpdate T (.map (some g)) key (a.eval v)).run P w=.ok () (ChangeMaps.setBlock w g (.map es' clock'))→es'.toList.map (·.key)=kvs'.map (·.1) →
   Dens w I (kvs'.map (·.2)) (es'.toList.map (·.val))→MapKept.Stamped es' clock'→∃ w' I' β',(execOp a.eval o).run P w=.ok .skip w'∧Rel dn w0 I0 F (S1.app o.dst ⟨.d .any,[],[(j,.mp kvs')],[]⟩) I' β' (a.put o.dst undef) w':=fun es' clock' hrun h1 h2 h3=>by
  have hgb:Gb w (ChangeMaps.setBlock w g (.map es' clock')) (some g):=⟨⟨rfl,rfl,rfl,by simp[ChangeMaps.setBlock],fun i _ hi=>ChangeMaps.heap_setBlock_other hg _ (fun e=>hi (by rw[e]))⟩,Nat.le_refl _⟩
  have hkp:Kept w I (ChangeMaps.setBlock w g (.map es' clock')) I:=⟨fun _ h=>h,fun n hn=>ChangeMaps.heap_setBlock_other hg _ (fun e=>hnI (e▸hn))⟩
  refine⟨ChangeMaps.setBlock w g (.map es' clock'),I,β,by simp[execOp,ho,hme,hxe,hrun],?_⟩
  rw[by_]
  exact Rel.put (S:=⟨S1.sl,setB S1.bx j (.mp kvs'),S1.df⟩) (w:=ChangeMaps.setBlock w g (.map es' clock')) ⟨hr.mem.turn (b':=.mp kvs') hb1 (by rw[hblk];exact hgb) ⟨g,es',clock',hβ,ChangeMaps.heap_setBlock_same hg _,h1,Dens.mono hkp _ _ h2,h3⟩,DenAs.mono hkp _ _ (fun _ _=>rfl) hr.sl,hr.dn,hr.fx⟩ o.dst (aX_ _ _ _ _)
 rcases hK.find w hkey es.toList hes with⟨f1,f2⟩|⟨i,e0,f1,f2,f3⟩
 ·rcases hput with⟨pre,d0,post,e1,_⟩|⟨_,rfl⟩
  ·have:key∈es.toList.map (·.key):=by rw[hkeys,e1];simp
   obtain⟨e,he,e2⟩:=List.mem_map.1 this
   exact (f2 e he e2).elim
  ·refine done (es.push ⟨key,a.eval v,clock⟩) (clock+1) ?_ ?_ ?_ (MapKept.stamped_push hst f2)
   ·simp[Instr.mapUpdate,run_underlying hu,MapKept.run_getObj_map hg,hK.check w false hkey,f1,MapKept.run_setObj_map _ hg,Result.andThen,ChangeMaps.setBlock]
   ·simp[hkeys]
   ·simp only[Array.toList_push,List.map_append,List.map_cons,List.map_nil]
    exact hvals.app ⟨_,[],rfl,hvd,rfl⟩
 ·have hmem:key∈kvs.map (·.1):=by rw[← hkeys];exact List.mem_map.2 ⟨e0,List.mem_of_getElem? f2,f3⟩
  rcases hput with⟨pre,d0,post,rfl,rfl⟩|⟨hno,_⟩
  ·have hnd:=gf_ hst hkeys
   have hat:(es.toList.map (·.key))[i]? = some key:=by rw[List.getElem?_map,f2,Option.map_some,f3]
   have hi:i=pre.length:=by
    rw[hkeys] at hat
    simp only[List.map_append,List.map_cons] at hat hnd
    have:=hp_ hnd hat
    simpa using this
   have hj:es[i]? = some e0:=by simpa using f2
   have hlist:(es.modify i (fun e'=>{ e' with key:=key,val:=a.eval v })).toList=es.toList.set i { e0 with key:=key,val:=a.eval v }:=by
    rw[Array.toList_modify]
    apply List.ext_getElem?
    intro q
    rw[List.getElem?_modify,List.getElem?_set]
    by_cases h:i=q
    ·subst h
     have hlt:i<es.toList.length:=(List.getElem?_eq_some_iff.1 f2).1
     have hlt':i<es.size:=by simpa using hlt
     simp[f2,hlt] at f2 ⊢
     exact hlt'
    ·simp[h]
   have hkeyf:∀ e'∈es.toList,es[i]? = some e'→({ e' with key:=key,val:=a.eval v }:MapEntry).key=e'.key:=fun e' _ he'=>by rw[hj] at he';cases he';exact f3.symm
   refine done (es.modify i (fun e'=>{ e' with key:=key,val:=a.eval v })) clock ?_ ?_ ?_ (MapKept.stamped_modify hst _ _ (fun _ _=>rfl) hkeyf)
   ·simp[Instr.mapUpdate,run_underlying hu,MapKept.run_getObj_map hg,hK.check w false hkey,f1,hj,f3,hK.stays w hkey,MapKept.run_setObj_map _ hg,Result.andThen,ChangeMaps.setBlock]
   ·rw[hlist,List.map_set,hkeys,hi]
    simp
   ·simp only[List.map_append,List.map_cons] at hvals
    obtain⟨us,u,ts,e1,e2,h1,h2,h3⟩:=Dens.at hvals
    rw[hlist,List.map_set,e1,hi]
    rw[List.length_map] at e2
    rw[← e2]
    simp only[List.map_append,List.map_cons]
    rw[List.set_append_right _ _ (Nat.le_refl _),Nat.sub_self,List.set_cons_zero]
    exact h1.app ⟨_,_,rfl,hvd,h3⟩
  ·obtain⟨p,hp,e1⟩:=List.mem_map.1 hmem
   exact (hno p hp e1).elim
theorem bA_ {P:Program} {τ:Tab} (hτ:aq_ P τ) {dn:Dn} {pn:Pn} {o:Oper} {S:St} {acc:List TI} {rest:St→List TI→Prop} {T:TypeId} {m x v:Operand} (ho:o.op=.mapUpdate T m x v) {K E:TypeId} {sz1 b1:Nat} {z1:List Value} (ht:τ T=some ⟨.map K E,sz1,b1,z1⟩)
  (hK:Maps.Keyed P K) {j:Nat} (hm:S.ev m=.row j) {kvs:List (Value×D)} (kvs':List (Value×D)) (hb:getB S.bx j=some (.mp kvs)) {key:Value} (hx:Leq (S.ev x) (.d (.v key))) {d:D} (hv:Leq (S.ev v) (.d d)) {l:Lit} (hkey:keyOf P K key=some l) (hks:c8_ P K kvs)
  (hput:iU_ kvs key d kvs') (h:rest (S.app o.dst ⟨.d .any,[],[(j,.mp kvs')],[]⟩) (⟨⟨.d .any,[],[(j,.mp kvs')],[]⟩,[j]⟩::acc)):vcStop P dn pn o rest S acc :=
 ⟨_,_,nr_ hτ ho ht hK hm hb hx hv hkey hks hput,trivial,h⟩
theorem gZ_ {P:Program} {τ:Tab} (hτ:aq_ P τ) {dn:Dn} {pn:Pn} {o:Oper} {S:St} {T:TypeId} {m x:Operand} (ho:o.op=.lookup T m x false) {K E:TypeId} {sz1 b1:Nat} {z1:List Value} (ht:τ T=some ⟨.map K E,sz1,b1,z1⟩)
  (hK:Maps.Keyed P K) {zv:Value} (hz:∀ w,(zeroValue E).run P w=.ok zv w) {j:Nat} (hm:S.ev m=.row j) {kvs:List (Value×D)} (hb:getB S.bx j=some (.mp kvs)) {key:Value} (hx:Leq (S.ev x) (.d (.v key))) {d:D} {l:Lit} (hkey:keyOf P K key=some l) (hks:c8_ P K kvs)
  (hget:jt_ kvs key (.v zv) d):LCore P dn pn o S ⟨.d d,[],[],[]⟩ [j]:=by
 intro S1 hs _
 have em:=hs.1 m (by simp[ho,Op.operands])
 have ex:=hs.1 x (by simp[ho,Op.operands])
 rw[← em] at hm
 rw[← ex] at hx
 obtain⟨dd,hu,hk⟩:=(hτ T _ ht).und
 simp only[TK.ok] at hk
 subst hk
 have hb1:=(hs.2.2 j (by simp)).trans hb
 refine Core.value fun w0 I0 F I β a w hr=>?_
 obtain⟨g,es,clock,hβ,hg,hkeys,hvals,hst⟩:=hr.mem.bxs j _ hb1
 have hmv:=hr.ev m
 rw[hm,DenA] at hmv
 have hme:a.eval m=.map (some g):=hmv.1.trans hβ
 have hxe:a.eval x=key:=DenA_v.1 (hx _ _ _ _ (hr.ev x))
 have hes:∀ e∈es.toList,∃ l,keyOf P K e.key=some l:=fun e he=>by
  have:e.key∈kvs.map (·.1):=by rw[← hkeys];exact List.mem_map.2 ⟨e,he,rfl⟩
  obtain⟨p,hp,e1⟩:=List.mem_map.1 this
  rw[← e1];exact hks p hp
 rcases hK.find w hkey es.toList hes with⟨f1,f2⟩|⟨i,e0,f1,f2,f3⟩
 ·rcases hget with⟨pre,post,e1⟩|⟨_,rfl⟩
  ·have:key∈es.toList.map (·.key):=by rw[hkeys,e1];simp
   obtain⟨e,he,e2⟩:=List.mem_map.1 this
   exact (f2 e he e2).elim
  ·refine⟨zv,?_,DenA_v.2 rfl⟩
   simp[execOp,ho,hme,hxe,Instr.lookup,run_underlying hu,MapKept.run_getObj_map hg,hK.check w _ hkey,f1,hz,Result.andThen]
 ·have hmem:key∈kvs.map (·.1):=by rw[← hkeys];exact List.mem_map.2 ⟨e0,List.mem_of_getElem? f2,f3⟩
  rcases hget with⟨pre,post,rfl⟩|⟨hno,_⟩
  ·have hnd:=gf_ hst hkeys
   have hat:(es.toList.map (·.key))[i]? = some key:=by rw[List.getElem?_map,f2,Option.map_some,f3]
   have hi:i=pre.length:=by
    rw[hkeys] at hat
    simp only[List.map_append,List.map_cons] at hat hnd
    have:=hp_ hnd hat
    simpa using this
   refine⟨e0.val,?_,?_⟩
   ·simp[execOp,ho,hme,hxe,Instr.lookup,run_underlying hu,MapKept.run_getObj_map hg,hK.check w _ hkey,f1,Result.andThen]
   ·rw[DenA]
    simp only[List.map_append,List.map_cons] at hvals
    obtain⟨us,u,ts,e1,e2,h1,h2,h3⟩:=Dens.at hvals
    have hv:(es.toList.map (·.val))[i]? = some e0.val:=by rw[List.getElem?_map,f2];rfl
    rw[List.length_map] at e2
    rw[e1,hi,← e2] at hv
    simp at hv
    rw[← hv]
    exact h2
  ·obtain⟨p,hp,e1⟩:=List.mem_map.1 hmem
   exact (hno p hp e1).elim
theorem aK_ {P:Program} {τ:Tab} (hτ:aq_ P τ) {dn:Dn} {pn:Pn} {o:Oper} {S:St} {acc:List TI} {rest:St→List TI→Prop} {T:TypeId} {m x:Operand} (ho:o.op=.lookup T m x false) {K E:TypeId} {sz1 b1:Nat} {z1:List Value} (ht:τ T=some ⟨.map K E,sz1,b1,z1⟩)
  (hK:Maps.Keyed P K) {zv:Value} (hz:∀ w,(zeroValue E).run P w=.ok zv w) {j:Nat} (hm:S.ev m=.row j) {kvs:List (Value×D)} (hb:getB S.bx j=some (.mp kvs)) {key:Value} (hx:Leq (S.ev x) (.d (.v key))) (d:D) {l:Lit} (hkey:keyOf P K key=some l) (hks:c8_ P K kvs)
  (hget:jt_ kvs key (.v zv) d) (h:rest (S.put o.dst (.d d)) (⟨⟨.d d,[],[],[]⟩,[j]⟩::acc)):vcStop P dn pn o rest S acc :=
 ⟨_,_,gZ_ hτ ho ht hK hz hm hb hx hkey hks hget,trivial,h⟩
theorem i3_ {P:Program} {τ:Tab} (hτ:aq_ P τ) {dn:Dn} {pn:Pn} {o:Oper} {g:Bool} {S:St} {acc:List TI} {rest:St→List TI→Prop} {T:TypeId} {m x:Operand} (ho:o.op=.lookup T m x false) {K E:TypeId} {sz1 b1:Nat} {z1:List Value} (ht:τ T=some ⟨.map K E,sz1,b1,z1⟩)
  (hK:Maps.Keyed P K) {zv:Value} (hz:∀ w,(zeroValue E).run P w=.ok zv w) {j:Nat} (hm:g=true→(S.under g).ev m=.row j) {kvs:List (Value×D)} (hb:getB S.bx j=some (.mp kvs)) {key:Value} (hx:g=true→Leq ((S.under g).ev x) (.d (.v key))) (d:D) {l:Lit} (hkey:keyOf P K key=some l) (hks:c8_ P K kvs)
  (hget:jt_ kvs key (.v zv) d) (h:rest (S.put o.dst (.when g (.d d))) (⟨⟨.when g (.d d),[],[],[]⟩,[j]⟩::acc)):vcStopG P dn pn o rest g S acc :=
 ⟨_,_,fun hg=>gZ_ hτ ho ht hK hz (hm hg) (show getB (S.under g).bx j=_ from hb) (hx hg) hkey hks hget,h⟩
end Go.Xe
