/-
  The engine: a row of the call's own put into a map, as data from then on; data against nil.
-/
import Derived.Test.YtdjkbdhdejlakaaGreatDoorVEngMa
import Derived.Test.YtdjkbdhdejlakaaGreatDoorVZI
import Derived.Test.YtdjkbdhdejlakaaGreatDoorV8
set_option linter.unusedVariables false
set_option linter.unusedSimpArgs false
set_option linter.unusedSectionVars false
namespace Go.Xe
open Go.RowKit
variable [Glob]
theorem Rel.freezeDrop {dn:Dn} {w0:World} {I0 F:Nat→Prop} {S:St} {I:Nat→Prop} {β:Nat→Value} {a:Act} {w:World} (hr:Rel dn w0 I0 F S I β a w) {k:Nat} {T:TypeId} {sz n:Nat} {ds:List D} (hb:getB S.bx k=some (.row T sz n (ds.map .d))) :
  ∃ I',Rel dn w0 I0 F ⟨S.sl,delB S.bx k,S.df⟩ I' β a w∧Den w I' (.sl sz ds n false) (β k):=by
 obtain⟨us,how,hd,ho⟩:=hr.mem.bxs k _ hb
 let I':Nat→Prop:=fun m=>I m∨Blk (β k) m
 have hk:Kept w I w I':=⟨fun _ h=>.inl h,fun _ _=>rfl⟩
 have hget:∀ j b,getB (delB S.bx k) j=some b→j≠k∧getB S.bx j=some b:=fun j b h=>by
  rw[getB_del] at h
  split at h
  ·cases h
  ·rename_i hne;exact⟨fun e=>hne e.symm,h⟩
 refine⟨I',⟨⟨fun j b h=>?_,fun j b m h hm=>?_,fun i j b c m h1 h2 hi hj=>?_,fun m hm=>?_,fun m hm=>?_,hr.mem.kept.trans hk,hr.mem.fr,hr.mem.sz,hr.mem.os,hr.mem.tape,hr.mem.out,hr.mem.dr,hr.mem.gl⟩,DenAs.mono hk _ _ (fun _ _=>rfl) hr.sl,hr.dn,hr.fx⟩,?_⟩
 ·exact (hr.mem.bxs j b (hget j b h).2).mono hk (fun _ _=>rfl) fun _ _=>rfl
 ·obtain⟨hne,hj⟩:=hget j b h
  refine⟨?_,(hr.mem.sep j b m hj hm).2⟩
  rintro (hI|hkm)
  ·exact (hr.mem.sep j b m hj hm).1 hI
  ·exact hne (hr.mem.inj j k b _ m hj hb hm hkm)
 ·exact hr.mem.inj i j b c m (hget i b h1).2 (hget j c h2).2 hi hj
 ·rcases hm with hm|hm
  ·exact hr.mem.im m hm
  ·exact (hr.mem.bxs k _ hb).lt hm
 ·rcases hm with hm|hm
  ·exact hr.mem.inew m hm
  ·exact .inr (hr.mem.sep k _ m hb hm).2
 ·have hl:ds.length=n*sz:=by have:=hd.length;rw[List.length_map] at this;rw[this];exact how.1
  rcases how.2 with⟨hn,rfl⟩|⟨g,cap,cur,hy,_,_,hnc,hcm,_⟩
  ·rw[hn,Den];exact⟨none,0,rfl,Nat.le_refl _,Nat.zero_le _,by simp,hl,fun _=>⟨rfl,rfl⟩,by simp⟩
  ·have hc:=how.cells (g:=g) (by rw[hy];rfl)
   have hat:DenAt w I' ds g 0:=by
    refine DenAt.of_dens (vs:=us) (.inr (by rw[hy];exact .inl rfl)) (Dens.mono hk _ _ hd.to_dens) ho fun j v hj=>?_
    have:=hc j v hj
    rwa[Addr.add_lit] at this
   rw[hy,Den]
   refine⟨some ⟨g,0,none⟩,cap,rfl,hnc,hcm,by simp,hl,by simp,fun ad had=>?_⟩
   cases had
   exact⟨fun _=>rfl,hat⟩
theorem rl_ {P:Program} {dn:Dn} {o:Oper} {S1:St} {T:TypeId} {m x v:Operand} (ho:o.op=.mapUpdate T m x v) {K E:TypeId} (hu:P.underlying T=some (.map K E))
  (hK:Maps.Keyed P K) {j:Nat} (hm:S1.ev m=.row j) {kvs kvs':List (Value×D)} (hb1:getB S1.bx j=some (.mp kvs)) {key:Value} {d:D} {l:Lit} (hkey:keyOf P K key=some l) (hks:c8_ P K kvs)
  (hput:iU_ kvs key d kvs') {w0:World} {I0 F I:Nat→Prop} {β:Nat→Value} {a:Act} {w:World} (hr:Rel dn w0 I0 F S1 I β a w) (hxe:a.eval x=key) (hvd:Den w I d (a.eval v)) :
  ∃ w' I' β',(execOp a.eval o).run P w=.ok .skip w'∧Rel dn w0 I0 F (S1.app o.dst ⟨.d .any,[],[(j,.mp kvs')],[]⟩) I' β' (a.put o.dst undef) w':=by
 obtain⟨g,es,clock,hβ,hg,hkeys,hvals,hst⟩:=hr.mem.bxs j _ hb1
 have hmv:=hr.ev m
 rw[hm,DenA] at hmv
 have hme:a.eval m=.map (some g):=hmv.1.trans hβ
 have hblk:blk (β j)=some g:=by rw[hβ];rfl
 have hnI:¬ I g:=(hr.mem.sep j _ g hb1 (.inl hblk)).1
 have hes:∀ e∈es.toList,∃ l,keyOf P K e.key=some l:=fun e he=>by
  have:e.key∈kvs.map (·.1):=by rw[← hkeys];exact List.mem_map.2 ⟨e,he,rfl⟩
  obtain⟨p,hp,e1⟩:=List.mem_map.1 this
  rw[← e1];exact hks p hp
 have done:∀ es' clock',(Instr.mapUpdate T (.map (some g)) key (a.eval v)).run P w=.ok () (ChangeMaps.setBlock w g (.map es' clock'))→es'.toList.map (·.key)=kvs'.map (·.1) →
   Dens w I (kvs'.map (·.2)) (es'.toList.map (·.val))→MapKept.Stamped es' clock'→∃ w' I' β',(execOp a.eval o).run P w=.ok .skip w'∧Rel dn w0 I0 F (S1.app o.dst ⟨.d .any,[],[(j,.mp kvs')],[]⟩) I' β' (a.put o.dst undef) w':=fun es' clock' hrun h1 h2 h3=>by
  have hgb:Gb w (ChangeMaps.setBlock w g (.map es' clock')) (some g):=⟨⟨rfl,rfl,rfl,by simp[ChangeMaps.setBlock],fun i _ hi=>ChangeMaps.heap_setBlock_other hg _ (fun e=>hi (by rw[e]))⟩,Nat.le_refl _⟩
  have hkp:Kept w I (ChangeMaps.setBlock w g (.map es' clock')) I:=⟨fun _ h=>h,fun n hn=>ChangeMaps.heap_setBlock_other hg _ (fun e=>hnI (e▸hn))⟩
  refine⟨ChangeMaps.setBlock w g (.map es' clock'),I,β,by simp[execOp,ho,hme,hxe,hrun],?_⟩
  rw[by_]
  exact Rel.put (S:=⟨S1.sl,setB S1.bx j (.mp kvs'),S1.df⟩) (w:=ChangeMaps.setBlock w g (.map es' clock')) ⟨hr.mem.turn (b':=.mp kvs') hb1 (by rw[hblk];exact hgb) ⟨g,es',clock',hβ,ChangeMaps.heap_setBlock_same hg _,h1,Dens.mono hkp _ _ h2,h3⟩,DenAs.mono hkp _ _ (fun _ _=>rfl) hr.sl,hr.dn,hr.fx⟩ o.dst (aX_ _ _ _ _)
 rcases hK.find w hkey es.toList hes with⟨f1,f2⟩|⟨i,e0,f1,f2,f3⟩
 ·rcases hput with⟨pre,d0,post,e1,_⟩|⟨_,rfl⟩
  ·have:key∈es.toList.map (·.key):=by rw[hkeys,e1];simp
   obtain⟨e,he,e2⟩:=List.mem_map.1 this
   exact (f2 e he e2).elim
  ·refine done (es.push ⟨key,a.eval v,clock⟩) (clock+1) ?_ ?_ ?_ (MapKept.stamped_push hst f2)
   ·simp[Instr.mapUpdate,run_underlying hu,MapKept.run_getObj_map hg,hK.check w false hkey,f1,MapKept.run_setObj_map _ hg,Result.andThen,ChangeMaps.setBlock]
   ·simp[hkeys]
   ·simp only[Array.toList_push,List.map_append,List.map_cons,List.map_nil]
    exact hvals.app ⟨_,[],rfl,hvd,rfl⟩
 ·have hmem:key∈kvs.map (·.1):=by rw[← hkeys];exact List.mem_map.2 ⟨e0,List.mem_of_getElem? f2,f3⟩
  rcases hput with⟨pre,d0,post,rfl,rfl⟩|⟨hno,_⟩
  ·have hnd:=gf_ hst hkeys
   have hat:(es.toList.map (·.key))[i]? = some key:=by rw[List.getElem?_map,f2,Option.map_some,f3]
   have hi:i=pre.length:=by
    rw[hkeys] at hat
    simp only[List.map_append,List.map_cons] at hat hnd
    have:=hp_ hnd hat
    simpa using this
   have hj:es[i]? = some e0:=by simpa using f2
   have hlist:(es.modify i (fun e'=>{ e' with key:=key,val:=a.eval v })).toList=es.toList.set i { e0 with key:=key,val:=a.eval v }:=by
    rw[Array.toList_modify]
    apply List.ext_getElem?
    intro q
    rw[List.getElem?_modify,List.getElem?_set]
    by_cases h:i=q
    ·subst h
     have hlt:i<es.toList.length:=(List.getElem?_eq_some_iff.1 f2).1
     have hlt':i<es.size:=by simpa using hlt
     simp[f2,hlt] at f2 ⊢
     exact hlt'
    ·simp[h]
   have hkeyf:∀ e'∈es.toList,es[i]? = some e'→({ e' with key:=key,val:=a.eval v }:MapEntry).key=e'.key:=fun e' _ he'=>by rw[hj] at he';cases he';exact f3.symm
   refine done (es.modify i (fun e'=>{ e' with key:=key,val:=a.eval v })) clock ?_ ?_ ?_ (MapKept.stamped_modify hst _ _ (fun _ _=>rfl) hkeyf)
   ·simp[Instr.mapUpdate,run_underlying hu,MapKept.run_getObj_map hg,hK.check w false hkey,f1,hj,f3,hK.stays w hkey,MapKept.run_setObj_map _ hg,Result.andThen,ChangeMaps.setBlock]
   ·rw[hlist,List.map_set,hkeys,hi]
    simp
   ·simp only[List.map_append,List.map_cons] at hvals
    obtain⟨us,u,ts,e1,e2,h1,h2,h3⟩:=Dens.at hvals
    rw[hlist,List.map_set,e1,hi]
    rw[List.length_map] at e2
    rw[← e2]
    simp only[List.map_append,List.map_cons]
    rw[List.set_append_right _ _ (Nat.le_refl _),Nat.sub_self,List.set_cons_zero]
    exact h1.app ⟨_,_,rfl,hvd,h3⟩
  ·obtain⟨p,hp,e1⟩:=List.mem_map.1 hmem
   exact (hno p hp e1).elim
theorem iW_ {P:Program} {τ:Tab} (hτ:aq_ P τ) {dn:Dn} {pn:Pn} {o:Oper} {S:St} {T:TypeId} {m x v:Operand} (ho:o.op=.mapUpdate T m x v) {K E:TypeId} {sz1 b1:Nat} {z1:List Value} (ht:τ T=some ⟨.map K E,sz1,b1,z1⟩)
  (hK:Maps.Keyed P K) {j:Nat} (hm:S.ev m=.row j) {kvs kvs':List (Value×D)} (hb:getB S.bx j=some (.mp kvs)) {key:Value} (hx:Leq (S.ev x) (.d (.v key))) {k:Nat} (hkj:k≠j) (hv:S.ev v=.row k) {T2:TypeId} {sz n:Nat} {ds:List D} (hbk:getB S.bx k=some (.row T2 sz n (ds.map .d)))
  {l:Lit} (hkey:keyOf P K key=some l) (hks:c8_ P K kvs) (hput:iU_ kvs key (.sl sz ds n false) kvs'):LCore P dn pn o S ⟨.d .any,[k],[(j,.mp kvs')],[]⟩ [j,k]:=by
 intro S1 hs _
 have em:=hs.1 m (by simp[ho,Op.operands])
 have ex:=hs.1 x (by simp[ho,Op.operands])
 have ev:=hs.1 v (by simp[ho,Op.operands])
 rw[← em] at hm
 rw[← ex] at hx
 rw[← ev] at hv
 obtain⟨dd,hu,hk⟩:=(hτ T _ ht).und
 simp only[TK.ok] at hk
 subst hk
 have hb1:=(hs.2.2 j (by simp)).trans hb
 have hbk1:=(hs.2.2 k (by simp)).trans hbk
 refine Core.skip fun w0 I0 F I β a w hr=>?_
 have hxe:a.eval x=key:=DenA_v.1 (hx _ _ _ _ (hr.ev x))
 have hvv:=hr.ev v
 rw[hv,DenA] at hvv
 obtain⟨I',hr',hd⟩:=hr.freezeDrop hbk1
 exact rl_ (S1:=⟨S1.sl,delB S1.bx k,S1.df⟩) ho hu hK (by rw[← hm];cases m<;>rfl) (by rw[getB_del,if_neg hkj];exact hb1) hkey hks hput hr' hxe (by rw[hvv.1];exact hd)
theorem dG_ {P:Program} {τ:Tab} (hτ:aq_ P τ) {dn:Dn} {pn:Pn} {o:Oper} {S:St} {acc:List TI} {rest:St→List TI→Prop} {T:TypeId} {m x v:Operand} (ho:o.op=.mapUpdate T m x v) {K E:TypeId} {sz1 b1:Nat} {z1:List Value} (ht:τ T=some ⟨.map K E,sz1,b1,z1⟩)
  (hK:Maps.Keyed P K) {j:Nat} (hm:S.ev m=.row j) {kvs:List (Value×D)} (kvs':List (Value×D)) (hb:getB S.bx j=some (.mp kvs)) {key:Value} (hx:Leq (S.ev x) (.d (.v key))) {k:Nat} (hkj:k≠j) (hv:S.ev v=.row k) {T2:TypeId} {sz n:Nat} {ds:List D} (hbk:getB S.bx k=some (.row T2 sz n (ds.map .d)))
  {l:Lit} (hkey:keyOf P K key=some l) (hks:c8_ P K kvs) (hput:iU_ kvs key (.sl sz ds n false) kvs')
  (h:rest (S.app o.dst ⟨.d .any,[k],[(j,.mp kvs')],[]⟩) (⟨⟨.d .any,[k],[(j,.mp kvs')],[]⟩,[j,k]⟩::acc)):vcStop P dn pn o rest S acc :=
 ⟨_,_,iW_ hτ ho ht hK hm hb hx hkj hv hbk hkey hks hput,trivial,h⟩
theorem lo_ {P:Program} {τ:Tab} (hτ:aq_ P τ) {ds:Dn} {pn:Pn} {o:Oper} {S:St} {T T' E:TypeId} {x y:Operand} {sz1 b1:Nat} {z1:List Value} (ho:o.op=.binOp .eql T x y T') (ht:τ T=some ⟨.slice E,sz1,b1,z1⟩)
  {sz n:Nat} {cs:List D} {full:Bool} (hx:S.ev x=.d (.sl sz cs n full)) (hy:S.ev y=.d (.v (.slice none 0 0))) (hn:0<n) :
  LCore P ds pn o S ⟨.d (.v (.bool false)),[],[],[]⟩ []:=by
 intro S1 hs hf
 have ex:=hs.1 x (by simp[ho,Op.operands])
 have ey:=hs.1 y (by simp[ho,Op.operands])
 rw[← ex] at hx
 rw[← ey] at hy
 obtain⟨d,hu,hk⟩:=(hτ T _ ht).und
 simp only[TK.ok] at hk
 subst hk
 refine Core.value fun w0 I0 F I β a w hr=>⟨.bool false,?_,DenA_v.2 rfl⟩
 have hv:=hr.ev x
 have hv2:=hr.ev y
 rw[hx,DenA,Den] at hv
 rw[hy,DenA_v] at hv2
 obtain⟨q,cap,hxe,_,_,_,_,hnil,_⟩:=hv
 cases q with
 | none=>have:=(hnil rfl).1;omega
 | some ad =>
  have h:=jC_ (w:=w) (x:=x) (y:=y) hu (some ad) n cap
  simp[execOp,ho,hxe,hv2,h.1,h.2]
theorem i4_ {P:Program} {τ:Tab} (hτ:aq_ P τ) {ds:Dn} {pn:Pn} {o:Oper} {S:St} {acc:List TI} {rest:St→List TI→Prop} {T T' E:TypeId} {x y:Operand} {sz1 b1:Nat} {z1:List Value} (ho:o.op=.binOp .eql T x y T') (ht:τ T=some ⟨.slice E,sz1,b1,z1⟩)
  {sz n:Nat} {cs:List D} {full:Bool} (hx:S.ev x=.d (.sl sz cs n full)) (hy:S.ev y=.d (.v (.slice none 0 0))) (hn:0<n)
  (h:rest (S.app o.dst ⟨.d (.v (.bool false)),[],[],[]⟩) (⟨⟨.d (.v (.bool false)),[],[],[]⟩,[]⟩::acc)):vcStop P ds pn o rest S acc :=
 ⟨_,_,lo_ hτ ho ht hx hy hn,trivial,h⟩
theorem j7_ {P:Program} {ds:Dn} {pn:Pn} {o:Oper} {S:St} {acc:List TI} {rest:St→List TI→Prop} {fx:Operand} {args:Array Operand} {ts:Array TypeId} {l:Nat} {xs:List D}
  {p p':Value→World→(Nat→Prop)→Prop} {b:Bool} (hy:YieldOk P l xs p p' b) (k k':Nat) (ho:o.op=.call ⟨.value fx,args,ts⟩) (hf:S.ev fx=.d (.v (.func (.yield l) #[] #[])))
  (hargs:LeqL (args.toList.map S.ev) (xs.map .d)) (hk:getB S.bx k=some (.opq p)) (hne:k≠k') (hfr:S.has k'=false)
  (h:rest (S.app o.dst ⟨.d (.v (.bool b)),[k],[],[(k',.opq p')]⟩) (⟨⟨.d (.v (.bool b)),[k],[],[(k',.opq p')]⟩,[k]⟩::acc)):vcStop P ds pn o rest S acc:=by
 have hL:=LCore.yield (ds:=ds) (pn:=pn) ho hf hy (fun t=>if t=1999 then k else if t=0 then k' else 5000+t) hargs
  ⟨by simp,by simp;exact⟨_,hk,rfl⟩,by simp[getB],fun i j hi hj e=>?_,by simp[aN_,Box.cs,ap_]⟩
 ·have e:callE (fun t=>if t=1999 then k else if t=0 then k' else 5000+t) [(1999,.opq p)] [(0,.opq p')] (.d (.v (.bool b)))=⟨.d (.v (.bool b)),[k],[],[(k',.opq p')]⟩:=rfl
  rw[e] at hL
  exact⟨_,_,hL,⟨hfr,trivial⟩,h⟩
 ·have l:∀ i,(isIn [(1999,Box.opq p)] i=true∨isIn [(0,Box.opq p')] i=true)→i=1999∨i=0:=fun i h=>by
   rcases h with h|h<;>simp only[isIn,getB] at h<;>split at h<;>first|omega|cases h
  rcases l i hi with rfl|rfl<;>rcases l j hj with rfl|rfl<;>simp at e ⊢
  ·exact hne e
  ·exact hne e.symm
end Go.Xe
