/-
  The engine: a part of a row of the call's own, looked into while the row is written.
-/
import Derived.Test.YtdjkbdhdejlakaaGreatDoorV8
import Derived.Laws.Cover3
set_option linter.unusedVariables false
set_option linter.unusedSimpArgs false
set_option linter.unusedSectionVars false
namespace Go.Xe
open Go.RowKit
variable [Glob]
theorem ji_ {P:Program} {τ:Tab} (hτ:aq_ P τ) {ds:Dn} {pn:Pn} {o:Oper} {S:St} {T E:TypeId} {x y:Operand} {sz1 b1:Nat} {z1:List Value} {te:TE} {kx:IntKind} (ho:o.op=.slice T x (some y) none none) (ht:τ T=some ⟨.slice E,sz1,b1,z1⟩) (hte:τ E=some te)
  {k:Nat} (hx:S.ev x=.row k) {n:Nat} {cs:List AV} (hb:getB S.bx k=some (.row E te.size n cs)) {m:Nat} (hm:m<n) (hy:S.ev y=.d (.v (.int kx m))) :
  LCore P ds pn o S ⟨.rsl k (m*te.size) (n-m),[],[],[]⟩ [k]:=by
 intro S1 hs hf
 have ex:=hs.1 x (by simp[ho,Op.operands])
 have ey:=hs.1 y (by simp[ho,Op.operands])
 rw[← ex] at hx
 rw[← ey] at hy
 obtain⟨d,hu,hk⟩:=(hτ T _ ht).und
 simp only[TK.ok] at hk
 subst hk
 have hb1:=(hs.2.2 k (by simp)).trans hb
 refine Core.value fun w0 I0 F I β a w hr=>?_
 obtain⟨xs,how,hdx,hox⟩:=hr.mem.bxs k _ hb1
 have hv:=hr.ev x
 rw[hx,DenA] at hv
 obtain⟨hl,how2⟩:=how
 rcases how2 with⟨_,h0⟩|⟨g,cap,cur,hyv,hz0,hg,hnc,hcm,hcs,htk⟩
 ·omega
 have hbd:=aY_ (P:=P) (isS:=true) (n:=n) (cap:=cap) (lo:=some y) (hi:=none) hr (l:=m) (by show n6_ (S1.ev y)=_;rw[hy];rfl) rfl (by omega) (by omega) (by omega)
 simp only[Option.map_none,Option.map_some] at hbd
 have hxe:a.eval x=.slice (some ⟨g,0,none⟩) n cap:=by rw[hv.1];exact hyv
 refine⟨.slice (some ⟨g,m*te.size,none⟩) (n-m) (cap-m),?_,g,n,cap,cap-m,hyv,rfl⟩
 simp[execOp,ho,Instr.sliceAt,Instr.slice,hxe,run_underlying hu,hbd,(hτ E te hte).size]
 simp[Addr.add_lit]
 omega
theorem hB_ {P:Program} {τ:Tab} (hτ:aq_ P τ) {ds:Dn} {pn:Pn} {o:Oper} {S:St} {acc:List TI} {rest:St→List TI→Prop} {T E:TypeId} {x y:Operand} {sz1 b1:Nat} {z1:List Value} {te:TE} {kx:IntKind} (ho:o.op=.slice T x (some y) none none) (ht:τ T=some ⟨.slice E,sz1,b1,z1⟩) (hte:τ E=some te)
  {k:Nat} (hx:S.ev x=.row k) {n:Nat} {cs:List AV} (hb:getB S.bx k=some (.row E te.size n cs)) {m:Nat} (hm:m<n) (hy:S.ev y=.d (.v (.int kx m)))
  (h:rest (S.app o.dst ⟨.rsl k (m*te.size) (n-m),[],[],[]⟩) (⟨⟨.rsl k (m*te.size) (n-m),[],[],[]⟩,[k]⟩::acc)):vcStop P ds pn o rest S acc :=
 ⟨_,_,ji_ hτ ho ht hte hx hb hm hy,trivial,h⟩
theorem jr_ {P:Program} {τ:Tab} (hτ:aq_ P τ) {ds:Dn} {pn:Pn} {o:Oper} {S:St} {T E:TypeId} {x:Operand} {sz1 b1:Nat} {z1:List Value} {te:TE} (ho:o.op=.call ⟨.builtin .clear,#[x],#[T]⟩) (hd0:o.dst=none) (ht:τ T=some ⟨.slice E,sz1,b1,z1⟩) (hte:τ E=some te)
  {k off m:Nat} (hx:S.ev x=.rsl k off m) {n:Nat} {cs:List AV} (hb:getB S.bx k=some (.row E te.size n cs)) (hm:off+m*te.size≤cs.length) (hm0:0<m) :
  LCore P ds pn o S ⟨.d .any,[],[(k,.row E te.size n (setL cs off (List.replicate (m*te.size) (.d .any))))],[]⟩ [k]:=by
 intro S1 hs hf
 have ex:=hs.1 x (by simp[ho,Op.operands,Call.operands])
 rw[← ex] at hx
 obtain⟨d,hu,hk⟩:=(hτ T _ ht).und
 simp only[TK.ok] at hk
 subst hk
 obtain⟨i,z,hi,his,hib,hiz,hzc,hzl',hz1⟩:=(hτ E te hte).info
 have hb1:=(hs.2.2 k (by simp)).trans hb
 have hzs:z.cells.size=te.size:=by rw[← Array.length_toList,hzc];exact hzl'
 refine Core.world fun w0 I0 F I β a w hr=>?_
 obtain⟨vs,how,hdx,hox⟩:=hr.mem.bxs k _ hb1
 have hv:=hr.ev x
 rw[hx] at hv
 obtain⟨b,n',c',c'',e1,e2⟩:=hv
 rw[e1] at how
 let us:=(Builtin.zeroCells z.cells m).toList
 have hul:us.length=m*te.size:=by simp[us,size_zeroCells,hzs]
 have hone:∀ u∈us,u.oneCell'=true:=fun u hu=>by
  by_cases h0:te.size=0
  ·exfalso
   have h1:us=[]:=List.eq_nil_of_length_eq_zero (by rw[hul,h0,Nat.mul_zero])
   rw[h1] at hu;cases hu
  ·have:=dm_ (by rw[hzs];omega) hu
   rw[hzc] at this
   exact List.all_eq_true.1 hz1 u this
 have hfit:off+us.length≤vs.length:=by rw[hul,← hdx.length];exact hm
 obtain⟨cur,hg,hfc,hown⟩:=fv_ how hfit
 have hst:=run_storeCells_at P b off E us 0 cur w hg (by simpa only[Nat.add_zero] using hfc) hone
 simp only[Nat.add_zero] at hst
 have hany:∀ (q:Nat) (l:List Value),l.length=q→DenAs w I β (List.replicate q (.d .any)) l:=fun q=>by
  induction q with
  | zero=>intro l h;cases l with
   | nil=>rfl
   | cons _ _=>cases h
  | succ q ih=>intro l h;cases l with
   | nil=>cases h
   | cons u l=>exact⟨u,l,rfl,aX_ _ _ _ _,ih l (by simpa using h)⟩
 have hkp:∀ r,Kept w I (w.setRow b r) I:=fun r =>
  ⟨fun _ h=>h,fun n hn=>setRow_other w b n _ (fun e=>(hr.mem.sep k _ b hb1 (by rw[e1];exact .inl rfl)).1 (e▸hn))⟩
 refine⟨.tuple #[],w.setRow b (cur.toList.take off++us++cur.toList.drop (off+us.length)).toArray,I,β,?_,?_⟩
 ·obtain⟨C,hC⟩:=aB_ (P:=P) ho
  rw[hC]
  obtain⟨m',rfl⟩:∃ m',m=m'+1:=⟨m-1,by omega⟩
  have hst':(storeCells ⟨b,off,none⟩ (Builtin.zeroCells z.cells (m'+1)).toList).run P w=.ok () (w.setRow b (cur.toList.take off++us++cur.toList.drop (off+us.length)).toArray):=hst
  simp[builtin,Builtin.clear_,run_underlying hu,e2,zeroValue,typeInfo,hi,hiz,hst']
 ·rw[by_,hd0]
  refine Rel.put (S:=⟨S1.sl,setB S1.bx k (.row E te.size n (setL cs off (List.replicate (m*te.size) (.d .any)))),S1.df⟩) (w:=w.setRow b (cur.toList.take off++us++cur.toList.drop (off+us.length)).toArray) ⟨hr.mem.turn (b':=.row E te.size n (setL cs off (List.replicate (m*te.size) (.d .any)))) hb1 (by rw[e1];exact aZ_ w b _) ?_,?_,hr.dn,hr.fx⟩ none (aX_ _ _ _ _)
  ·rw[e1]
   refine⟨jB_ vs off us,hown,DenAs.setL (DenAs.mono (hkp _) _ _ (fun _ _=>rfl) (hany _ _ hul)) (DenAs.mono (hkp _) _ _ (fun _ _=>rfl) hdx) off,fun u hu=>?_⟩
   rcases mem_setV _ _ _ _ hu with hu|hu
   ·exact hox u hu
   ·exact hone u hu
  ·exact DenAs.mono (hkp _) _ _ (fun _ _=>rfl) hr.sl
theorem hG_ {P:Program} {τ:Tab} (hτ:aq_ P τ) {ds:Dn} {pn:Pn} {o:Oper} {S:St} {acc:List TI} {rest:St→List TI→Prop} {T E:TypeId} {x:Operand} {sz1 b1:Nat} {z1:List Value} {te:TE} (ho:o.op=.call ⟨.builtin .clear,#[x],#[T]⟩) (hd0:o.dst=none) (ht:τ T=some ⟨.slice E,sz1,b1,z1⟩) (hte:τ E=some te)
  {k off m:Nat} (hx:S.ev x=.rsl k off m) {n:Nat} {cs:List AV} (hb:getB S.bx k=some (.row E te.size n cs)) (hm:off+m*te.size≤cs.length) (hm0:0<m)
  (h:rest (S.app o.dst ⟨.d .any,[],[(k,.row E te.size n (setL cs off (List.replicate (m*te.size) (.d .any))))],[]⟩) (⟨⟨.d .any,[],[(k,.row E te.size n (setL cs off (List.replicate (m*te.size) (.d .any))))],[]⟩,[k]⟩::acc)):vcStop P ds pn o rest S acc :=
 ⟨_,_,jr_ hτ ho hd0 ht hte hx hb hm hm0,trivial,h⟩
theorem jC_ {P:Program} {w:World} {T E:TypeId} {x y:Operand} (hu:P.underlying T=some (.slice E)) (a:Option Addr) (l c:Nat) :
  (eqGuard .eql T x y (.slice a l c) (.slice none 0 0)).run P w=.ok () w∧(binOp .eql T (.slice a l c) (.slice none 0 0)).run P w=.ok (.bool a.isNone) w:=by
 refine⟨rfl,?_⟩
 simp only[binOp]
 simp[run_equal_slice_nil w T E a l c hu]
theorem jp_ {P:Program} {τ:Tab} (hτ:aq_ P τ) {ds:Dn} {pn:Pn} {o:Oper} {S:St} {T T' E:TypeId} {x y:Operand} {sz1 b1:Nat} {z1:List Value} (ho:o.op=.binOp .eql T x y T') (ht:τ T=some ⟨.slice E,sz1,b1,z1⟩)
  (hx:S.ev x=.d (.v (.slice none 0 0))) (hy:S.ev y=.d (.v (.slice none 0 0))) :
  LCore P ds pn o S ⟨.d (.v (.bool true)),[],[],[]⟩ []:=by
 intro S1 hs hf
 have ex:=hs.1 x (by simp[ho,Op.operands])
 have ey:=hs.1 y (by simp[ho,Op.operands])
 rw[← ex] at hx
 rw[← ey] at hy
 obtain⟨d,hu,hk⟩:=(hτ T _ ht).und
 simp only[TK.ok] at hk
 subst hk
 refine Core.value fun w0 I0 F I β a w hr=>⟨.bool true,?_,DenA_v.2 rfl⟩
 have hv:=hr.ev x
 have hv2:=hr.ev y
 rw[hx,DenA_v] at hv
 rw[hy,DenA_v] at hv2
 have h:=jC_ (w:=w) (x:=x) (y:=y) hu none 0 0
 simp[execOp,ho,hv,hv2,h.1,h.2]
theorem hE_ {P:Program} {τ:Tab} (hτ:aq_ P τ) {ds:Dn} {pn:Pn} {o:Oper} {S:St} {acc:List TI} {rest:St→List TI→Prop} {T T' E:TypeId} {x y:Operand} {sz1 b1:Nat} {z1:List Value} (ho:o.op=.binOp .eql T x y T') (ht:τ T=some ⟨.slice E,sz1,b1,z1⟩)
  (hx:S.ev x=.d (.v (.slice none 0 0))) (hy:S.ev y=.d (.v (.slice none 0 0)))
  (h:rest (S.app o.dst ⟨.d (.v (.bool true)),[],[],[]⟩) (⟨⟨.d (.v (.bool true)),[],[],[]⟩,[]⟩::acc)):vcStop P ds pn o rest S acc :=
 ⟨_,_,jp_ hτ ho ht hx hy,trivial,h⟩
end Go.Xe
