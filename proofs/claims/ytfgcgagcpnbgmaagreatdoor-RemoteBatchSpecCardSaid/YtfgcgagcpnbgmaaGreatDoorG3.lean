/-
  Joined texts.
-/
import Derived.Test.YtfgcgagcpnbgmaaGreatDoorG2
import Derived.WalkSmall
import Derived.Defers
import Derived.Recover
set_option linter.all false
namespace Go.Xe
open Go.RowKit
variable [Glob]
def Leq (x y:AV):Prop:=∀ w I β v,DenA w I β x v→DenA w I β y v
theorem Leq.refl (x:AV):Leq x x:=fun _ _ _ _ h=>h
theorem Leq.trans {x y z:AV} (h:Leq x y) (h':Leq y z):Leq x z:=fun w I β v hv=>h' w I β v (h w I β v hv)
theorem Leq.any (x:AV):Leq x (.d .any):=fun w I β v _=>bL_ w I β v
def LeqL:List AV→List AV→Prop
 | [],[]=>True
 | x::xs,y::ys=>Leq x y∧LeqL xs ys
 | _,_=>False
theorem LeqL.refl:∀ l,LeqL l l
 | []=>trivial
 | x::xs=>⟨.refl x,LeqL.refl xs⟩
theorem LeqL.ok {w:World} {I:Nat→Prop} {β:Nat→Value}:∀ {l l':List AV} {vs:List Value},LeqL l l'→DenAs w I β l vs→DenAs w I β l' vs
 | [],[],_,_,h=>h
 | x::xs,y::ys,_,hl,h=>by obtain⟨v,vs',rfl,h1,h2⟩:=h;exact⟨v,vs',rfl,hl.1 _ _ _ _ h1,LeqL.ok hl.2 h2⟩
 | [],_::_,_,hl,_=>hl.elim
 | _::_,[],_,hl,_=>hl.elim
theorem Leq.agg {l l':List AV} (h:LeqL l l'):Leq (.agg l) (.agg l'):=fun w I β v hv=>by obtain⟨vs,e,hd⟩:=hv;exact⟨vs,e,h.ok hd⟩
theorem Leq.tup {l l':List AV} (h:LeqL l l'):Leq (.tup l) (.tup l'):=fun w I β v hv=>by obtain⟨vs,e,hd⟩:=hv;exact⟨vs,e,h.ok hd⟩
theorem al_ (l:List D):Leq (.agg (l.map .d)) (.d (.agg l)):=fun w I β v hv=>by
 obtain⟨vs,e,hd⟩:=hv;rw[DenA,Den];exact⟨vs,e,hd.to_dens⟩
theorem f2_ (l:List D):Leq (.tup (l.map .d)) (.d (.tup l)):=fun w I β v hv=>by
 obtain⟨vs,e,hd⟩:=hv;rw[DenA,Den];exact⟨vs,e,hd.to_dens⟩
theorem of_ (l:List D):Leq (.d (.agg l)) (.agg (l.map .d)):=fun w I β v hv=>by
 rw[DenA,Den] at hv;obtain⟨vs,e,hd⟩:=hv;exact⟨vs,e,.of_dens hd⟩
theorem Leq.sl (sz:Nat) (cs:List D) (n:Nat) (f:Bool):Leq (.d (.sl sz cs n f)) (.d (.sl sz cs n false)):=fun w I β v hv=>by
 rw[DenA,Den] at hv ⊢;obtain⟨a,cap,e,h1,h2,_,h3⟩:=hv;exact⟨a,cap,e,h1,h2,by simp,h3⟩
theorem Leq.nil (sz:Nat):Leq (.d (.v (.slice none 0 0))) (.d (.sl sz [] 0 false)):=fun w I β v hv=>by
 rw[DenA_v] at hv;subst hv;rw[DenA,Den]
 exact⟨none,0,rfl,Nat.le_refl _,Nat.zero_le _,by simp,by simp,fun _=>⟨rfl,rfl⟩,by simp⟩
def toD:AV→Option D
 | .d (.sl sz cs n _)=>some (.sl sz cs n false)
 | .d x=>some x
 | _=>none
def vG_:List AV→Option (List D)
 | []=>some []
 | x::xs=>(toD x).bind fun d=>(vG_ xs).map fun ds=>d::ds
def norm:AV→AV
 | .d (.sl sz cs n _)=>.d (.sl sz cs n false)
 | .agg cs=>match vG_ cs with
  | some ds=>.d (.agg ds)
  | none=>.agg cs
 | .tup cs=>match vG_ cs with
  | some ds=>.d (.tup ds)
  | none=>.tup cs
 | x=>x
theorem toD_ok {x:AV} {d:D} (h:toD x=some d):Leq x (.d d):=by
 unfold toD at h
 split at h
 ·cases h;exact .sl _ _ _ _
 ·cases h;exact .refl _
 ·cases h
theorem toDs_ok:∀ {l:List AV} {ds:List D},vG_ l=some ds→LeqL l (ds.map .d)
 | [],ds,h=>by cases h;trivial
 | x::xs,ds,h=>by
  unfold vG_ at h
  cases h1:toD x with
  | none=>rw[h1] at h;cases h
  | some d =>
   rw[h1,Option.bind_some] at h
   cases h2:vG_ xs with
   | none=>rw[h2] at h;cases h
   | some ds'=>rw[h2] at h;cases h;exact⟨toD_ok h1,toDs_ok h2⟩
theorem y9_ (x:AV):Leq x (norm x):=by
 unfold norm
 split
 ·exact .sl _ _ _ _
 ·split
  ·rename_i h;exact (Leq.agg (toDs_ok h)).trans (al_ _)
  ·exact .refl _
 ·split
  ·rename_i h;exact (Leq.tup (toDs_ok h)).trans (f2_ _)
  ·exact .refl _
 ·exact .refl _
theorem hZ_:∀ (l:List AV),LeqL l (l.map norm)
 | []=>trivial
 | x::xs=>⟨y9_ x,hZ_ xs⟩
def Wk (S S':St):Prop:=∀ ds w0 I0 F I β a w,Rel ds w0 I0 F S I β a w→∃ I' β',Rel ds w0 I0 F S' I' β' a w
theorem Wk.refl (S:St):Wk S S:=fun _ _ _ _ I β _ _ h=>⟨I,β,h⟩
theorem Wk.trans {S S' S'':St} (h:Wk S S') (h':Wk S' S''):Wk S S'':=fun ds w0 I0 F I β a w hr=>by
 obtain⟨I',β',hr'⟩:=h ds w0 I0 F I β a w hr;exact h' ds w0 I0 F I' β' a w hr'
theorem eb_ {S S':St} (hs:LeqL S.sl S'.sl) (hb:∀ k b,getB S'.bx k=some b→getB S.bx k=some b) (hdf:S'.df=S.df:=by rfl):Wk S S':=fun _ _ _ _ I β _ _ hr =>
 ⟨I,β,hr.mem.sub hb,hs.ok hr.sl,by rw[hdf];exact hr.dn,hr.fx⟩
theorem ar_ {P:Program} {ds:Dn} {pn:Pn} {c:Code} {Q:Exit→St→Prop} {S S':St} (hw:Wk S S') (h:WP P ds pn c Q S'):WP P ds pn c Q S:=fun w0 I0 F I β a w hr=>by
 obtain⟨I',β',hr'⟩:=hw ds w0 I0 F I β a w hr;exact h w0 I0 F I' β' a w hr'
mutual
def frz (k sz n:Nat) (ds:List D):AV→AV
 | .row j=>if j=k then .d (.sl sz ds n false) else .row j
 | .rptr j off=>if j=k then .d (.ip (ds.drop off)) else .rptr j off
 | .agg cs=>.agg (gx_ k sz n ds cs)
 | .tup cs=>.tup (gx_ k sz n ds cs)
 | .fn f a b=>.fn f (gx_ k sz n ds a) (gx_ k sz n ds b)
 | .iface t x=>.iface t (frz k sz n ds x)
 | .when b x=>.when b (frz k sz n ds x)
 | .ptr j off=>.ptr j off
 | .psl j off m c=>.psl j off m c
 | .rsl j off m=>if j=k then .d .any else .rsl j off m
 | .d x=>.d x
def gx_ (k sz n:Nat) (ds:List D):List AV→List AV
 | []=>[]
 | x::xs=>frz k sz n ds x::gx_ k sz n ds xs
end
def DH_ (k sz n:Nat) (ds:List D):Box→Box
 | .cells T cs=>.cells T (gx_ k sz n ds cs)
 | .row T s m cs=>.row T s m (gx_ k sz n ds cs)
 | .obj b o=>.obj b o
 | .mp kvs=>.mp kvs
 | .opq p=>.opq p
def lq_ (k sz n:Nat) (ds:List D):Bxs→Bxs
 | []=>[]
 | (j,b)::r=>if j=k then lq_ k sz n ds r else (j,DH_ k sz n ds b)::lq_ k sz n ds r
theorem ln_ {k sz n:Nat} {ds:List D}:∀ (bx:Bxs) (j:Nat),getB (lq_ k sz n ds bx) j=if j=k then none else (getB bx j).map (DH_ k sz n ds)
 | [],j=>by simp[lq_,getB]
 | (i,b)::r,j=>by
  simp only[lq_]
  split
  ·rename_i h;subst h
   rw[ln_ r j]
   simp only[getB]
   by_cases h:j=i
   ·simp[h]
   ·simp[h,Ne.symm h]
  ·rename_i h
   simp only[getB]
   by_cases h2:i=j
   ·subst h2;simp[h]
   ·simp only[h2,if_false];exact ln_ r j
mutual
theorem uj_ {w:World} {I:Nat→Prop} {β:Nat→Value} {k sz n:Nat} {ds:List D} (hrow:∀ v,v=β k→((∃ a n c,v=.slice a n c)∨∃ r,v=.map r)→DenA w I β (.d (.sl sz ds n false)) v)
  (hptr:∀ b m c off,β k=.slice (some ⟨b,0,none⟩) m c→DenA w I β (.d (.ip (ds.drop off))) (.pointer (some ⟨b,off,none⟩))):∀ (x:AV) (v:Value),DenA w I β x v→DenA w I β (frz k sz n ds x) v
 | .row j,v,h=>by
  rw[frz];rw[DenA] at h
  split
  ·rename_i e;subst e;exact hrow v h.1 h.2
  ·rw[DenA];exact h
 | .rptr j off,v,h=>by
  rw[frz]
  split
  ·rename_i e;subst e;obtain⟨b,m,c,h1,rfl⟩:=h;exact hptr b m c off h1
  ·exact h
 | .agg cs,v,h=>by rw[frz];obtain⟨vs,e,h⟩:=h;exact⟨vs,e,gw_ hrow hptr cs vs h⟩
 | .tup cs,v,h=>by rw[frz];obtain⟨vs,e,h⟩:=h;exact⟨vs,e,gw_ hrow hptr cs vs h⟩
 | .fn f a b,v,h=>by rw[frz];obtain⟨v1,v2,e,h1,h2⟩:=h;exact⟨v1,v2,e,gw_ hrow hptr a v1 h1,gw_ hrow hptr b v2 h2⟩
 | .iface t x,v,h=>by rw[frz];obtain⟨z,e,h⟩:=h;exact⟨z,e,uj_ hrow hptr x z h⟩
 | .when b x,v,h=>by rw[frz];exact⟨fun e=>uj_ hrow hptr x v (h.1 e),h.2⟩
 | .ptr j off,v,h=>by rw[frz];exact h
 | .psl j off m c,v,h=>by rw[frz];exact h
 | .rsl j off m,v,h=>by
  rw[frz]
  split
  ·exact bL_ _ _ _ _
  ·exact h
 | .d x,v,h=>by rw[frz];exact h
theorem gw_ {w:World} {I:Nat→Prop} {β:Nat→Value} {k sz n:Nat} {ds:List D} (hrow:∀ v,v=β k→((∃ a n c,v=.slice a n c)∨∃ r,v=.map r)→DenA w I β (.d (.sl sz ds n false)) v)
  (hptr:∀ b m c off,β k=.slice (some ⟨b,0,none⟩) m c→DenA w I β (.d (.ip (ds.drop off))) (.pointer (some ⟨b,off,none⟩))):∀ (l:List AV) (vs:List Value),DenAs w I β l vs→DenAs w I β (gx_ k sz n ds l) vs
 | [],vs,h=>by rw[gx_];exact h
 | x::xs,vs,h=>by rw[gx_];obtain⟨v,vs',e,h1,h2⟩:=h;exact⟨v,vs',e,uj_ hrow hptr x v h1,gw_ hrow hptr xs vs' h2⟩
end
theorem Wk.freeze {S:St} {k:Nat} {T:TypeId} {sz n:Nat} {ds:List D} (hb:getB S.bx k=some (.row T sz n (ds.map .d))):Wk S ⟨gx_ k sz n ds S.sl,lq_ k sz n ds S.bx,S.df⟩:=fun dn w0 I0 F I β a w hr=>by
 obtain⟨us,how,hd,ho⟩:=hr.mem.bxs k _ hb
 let I':Nat→Prop:=fun m=>I m∨Blk (β k) m
 have hk:Kept w I w I':=⟨fun _ h=>.inl h,fun _ _=>rfl⟩
 have hcell:∀ b m c,β k=.slice (some ⟨b,0,none⟩) m c→DenAt w I' ds b 0:=fun b m c e=>by
  have hc:=how.cells (g:=b) (by rw[e];rfl)
  refine DenAt.of_dens (vs:=us) (.inr (by rw[e];exact .inl rfl)) (Dens.mono hk _ _ hd.to_dens) ho fun j v hj=>?_
  have:=hc j v hj
  rwa[Addr.add_lit] at this
 have hrow:∀ v,v=β k→((∃ a n c,v=.slice a n c)∨∃ r,v=.map r)→DenA w I' β (.d (.sl sz ds n false)) v:=fun v hv _=>by
  subst hv
  have hl:ds.length=n*sz:=by have:=hd.length;rw[List.length_map] at this;rw[this];exact how.1
  rcases how.2 with⟨hn,rfl⟩|⟨g,cap,cur,hy,_,_,hnc,hcm,_⟩
  ·rw[hn,DenA,Den];exact⟨none,0,rfl,Nat.le_refl _,Nat.zero_le _,by simp,hl,fun _=>⟨rfl,rfl⟩,by simp⟩
  ·rw[hy,DenA,Den]
   refine⟨some ⟨g,0,none⟩,cap,rfl,hnc,hcm,by simp,hl,by simp,fun ad had=>?_⟩
   cases had
   exact⟨fun _=>rfl,hcell g n cap hy⟩
 have hptr:∀ b m c off,β k=.slice (some ⟨b,0,none⟩) m c→DenA w I' β (.d (.ip (ds.drop off))) (.pointer (some ⟨b,off,none⟩)):=fun b m c off e=>by
  rw[DenA,Den]
  have:=(hcell b m c e).drop off
  rw[Nat.zero_add] at this
  exact⟨b,off,rfl,this⟩
 have up:∀ l vs,DenAs w I β l vs→DenAs w I' β (gx_ k sz n ds l) vs:=fun l vs h=>gw_ hrow hptr l vs (DenAs.mono hk _ _ (fun _ _=>rfl) h)
 have hget:∀ j b,getB (lq_ k sz n ds S.bx) j=some b→j≠k∧∃ b',getB S.bx j=some b'∧b=DH_ k sz n ds b':=fun j b h=>by
  rw[ln_] at h
  split at h
  ·cases h
  ·rename_i hne
   refine⟨hne,?_⟩
   cases hj:getB S.bx j with
   | none=>rw[hj] at h;cases h
   | some b'=>rw[hj] at h;cases h;exact⟨b',rfl,rfl⟩
 refine⟨I',β,⟨fun j b h=>?_,fun j b m h hm=>?_,fun i j b c m h1 h2 hi hj=>?_,fun m hm=>?_,fun m hm=>?_,hr.mem.kept.trans hk,hr.mem.fr,hr.mem.sz,hr.mem.os,hr.mem.tape,hr.mem.out,hr.mem.dr,hr.mem.gl⟩,up _ _ hr.sl,hr.dn,hr.fx⟩
 ·obtain⟨_,b',hj,rfl⟩:=hget j b h
  have:=hr.mem.bxs j b' hj
  cases b' with
  | cells T' cs=>obtain⟨g,vs,e,hg,h1,h2⟩:=this;exact⟨g,vs,e,hg,up _ _ h1,h2⟩
  | row T' s m cs=>obtain⟨vs,h0,h1,h2⟩:=this;exact⟨vs,h0,up _ _ h1,h2⟩
  | obj g o=>exact this
  | mp kvs=>obtain⟨g,es,clock,e,hg,h1,h2,h3⟩:=this;exact⟨g,es,clock,e,hg,h1,Dens.mono hk _ _ h2,h3⟩
  | opq p=>obtain⟨w1,I1,h0,h1,h2⟩:=this;exact⟨w1,I1,h0,h1.trans hk,h2⟩
 ·obtain⟨hne,b',hj,rfl⟩:=hget j b h
  refine⟨?_,(hr.mem.sep j b' m hj hm).2⟩
  rintro (hI|hkm)
  ·exact (hr.mem.sep j b' m hj hm).1 hI
  ·exact hne (hr.mem.inj j k b' _ m hj hb hm hkm)
 ·obtain⟨_,b',h1',_⟩:=hget i b h1
  obtain⟨_,c',h2',_⟩:=hget j c h2
  exact hr.mem.inj i j b' c' m h1' h2' hi hj
 ·rcases hm with hm|hm
  ·exact hr.mem.im m hm
  ·exact (hr.mem.bxs k _ hb).lt hm
 ·rcases hm with hm|hm
  ·exact hr.mem.inew m hm
  ·exact .inr (hr.mem.sep k _ m hb hm).2
theorem ai_ {P:Program} {ds:Dn} {pn:Pn} {Q:Exit→St→Prop} {S S0:St} {c:Code} (Inv:Nat→St→Prop) (n:Nat) (hw:Wk S S0) (h0:Inv n S0) (round:∀ n S,Inv n S→WP P ds pn c (loopW Wk Inv n Q) S):WP P ds pn (.loop c) Q S:=by
 refine WP.loop (fun n S=>∃ S',Wk S S'∧Inv n S') n ⟨S0,hw,h0⟩ fun n S ⟨S',hw,hi⟩=>ar_ hw (WP.mono (round n S' hi) fun e S h=>?_)
 cases e<;>first|exact h|(obtain⟨S',hw,m,hm,hi⟩:=h;exact⟨m,hm,S',hw,hi⟩)
def jE_ (τ:Tab) (S:St):List ResultVar→Option (Prop×List AV)
 | []=>some (True,[])
 | .tmp t::r=>(jE_ τ S r).map fun q=>(q.1,S.at t::q.2)
 | .cell t T::r=>(τ T).bind fun te=>match S.at t with
  | .ptr k off=>match getB S.bx k with
   | some (.cells _ cs)=>(jE_ τ S r).map fun q=>(dn_ te off cs.length∧q.1,gk_ te off cs::q.2)
   | _=>none
  | _=>none
def resV (tmps:Array Value):ResultVar→Sem Value
 | .tmp t=>pure (tmps.getD t undef)
 | .cell b t=>do loadVar t (← asAddr (tmps.getD b undef))
def DF_:List Value→Value
 | [v]=>v
 | l=>.tuple l.toArray
def rR_:List AV→AV
 | [x]=>x
 | l=>.tup l
def r6_ (τ:Tab) (rs:List ResultVar) (res:AV) (bo:Bxs) (S:St):Prop :=
 ∃ side l,jE_ τ S rs=some (side,l)∧side∧Leq (rR_ l) res∧∀ k b,getB bo k=some b→getB S.bx k=some b
def finQ (τ:Tab) (rs:List ResultVar) (res:AV) (bo:Bxs) (e:Exit) (S:Kp2 (τ,rs) (res,bo)):Prop :=
 match e with
 | .normal=>∃ S',Wk S S'∧r6_ τ rs res bo S'
 | .ret=>∃ S',Wk S S'∧r6_ τ rs res bo S'
 | _=>False
theorem dW_ {P:Program} {τ:Tab} (hτ:ay_ P τ) {ds:Dn} {w0:World} {I0 F:Nat→Prop} {S:St} {I:Nat→Prop} {β:Nat→Value} {a:Act} {w:World} (hr:Rel ds w0 I0 F S I β a w) :
  ∀ (rs:List ResultVar) {side:Prop} {l:List AV},jE_ τ S rs=some (side,l)→side→∃ vs:List Value,(rs.mapM (resV a.tmps)).run P w=.ok vs w∧DenAs w I β l vs
 | [],side,l,h,_=>by cases h;exact⟨[],by simp[List.mapM_nil],rfl⟩
 | .tmp t::rs,side,l,h,hs=>by
  unfold jE_ at h
  cases h1:jE_ τ S rs with
  | none=>rw[h1] at h;cases h
  | some q =>
   obtain⟨sd,l'⟩:=q
   rw[h1] at h;cases h
   obtain⟨vs,hv,hd⟩:=dW_ hτ hr rs h1 hs
   exact⟨a.tmps.getD t undef::vs,by simp only[List.mapM_cons,resV,Sem.run_bind,Sem.run_pure,Result.andThen_ok,hv],_,_,rfl,hr.ev (.tmp t),hd⟩
 | .cell t T::rs,side,l,h,hs=>by
  unfold jE_ at h
  cases ht:τ T with
  | none=>rw[ht] at h;cases h
  | some te =>
   rw[ht,Option.bind_some] at h
   split at h
   ·rename_i k off hx
    split at h
    ·rename_i T' cs hb
     cases h1:jE_ τ S rs with
     | none=>rw[h1] at h;cases h
     | some q =>
      obtain⟨sd,l'⟩:=q
      rw[h1] at h;cases h
      obtain⟨vs,hv,hd⟩:=dW_ hτ hr rs h1 hs.2
      have hp:=hr.ev (.tmp t)
      simp only[St.ev] at hp
      rw[hx] at hp
      obtain⟨b,e1,e2⟩:=hp
      obtain⟨b',us,e3,hh,hdu,_⟩:=hr.mem.bxs k _ hb
      rw[e1] at e3;cases e3
      have hl:us.length=cs.length:=hdu.length.symm
      have hrun:=c6_ (P:=P) (w:=w) (hτ T te ht) (b:=b) (off:=off) (us:=(us.drop off).take te.size) (fun j v hj=>by
       rw[cell_of_row w b (off+j) _ _ _ hh]
       simp only[List.getElem?_take,List.getElem?_drop] at hj
       split at hj
       ·simpa using hj
       ·cases hj) (by have:=hs.1.1;simp;omega) hs.1.2
      have e2':a.tmps.getD t undef=.pointer (some ⟨b,off,none⟩):=e2
      refine⟨_::vs,?_,_,_,rfl,cd_ hdu hs.1,hd⟩
      have hone:(resV a.tmps (.cell t T)).run P w=.ok (if te.k.agg=true then .agg ((us.drop off).take te.size).toArray else ((us.drop off).take te.size).getD 0 undef) w:=by
       unfold resV;rw[Sem.run_bind,e2'];exact hrun
      simp only[List.mapM_cons,Sem.run_bind,hone,Result.andThen_ok,hv,Sem.run_pure]
    ·cases h
   ·cases h
theorem cr_ (fn:Func) (tmps:Array Value) (P:Program) (w:World) (vs:List Value)
  (h:(fn.results.toList.mapM (resV tmps)).run P w=.ok vs w):(results fn tmps).run P w=.ok (DF_ vs) w:=by
 have hm:∀ (f:ResultVar→Sem Value),(∀ r,f r=resV tmps r)→(fn.results.mapM f).run P w=.ok vs.toArray w:=fun f hf=>by
  have:f=resV tmps:=funext hf
  rw[this,← Array.toArray_toList (xs:=fn.results),List.mapM_toArray,Sem.run_map,h];rfl
 unfold results
 rw[Sem.run_bind,hm _ (fun r=>by cases r<;>rfl),Result.andThen_ok,Sem.run_pure]
 cases vs with
 | nil=>rfl
 | cons v vs =>
  cases vs with
  | nil=>rfl
  | cons u vs=>simp[DF_]
theorem DenAs.one {w:World} {I:Nat→Prop} {β:Nat→Value} {l:List AV} {vs:List Value} (h:DenAs w I β l vs):DenA w I β (rR_ l) (DF_ vs):=by
 cases l with
 | nil=>rw[DenAs] at h;subst h;exact⟨[],rfl,rfl⟩
 | cons x xs =>
  cases xs with
  | nil=>obtain⟨v,vs',rfl,h1,h2⟩:=h;rw[DenAs] at h2;subst h2;exact h1
  | cons y ys =>
   have h':=h
   obtain⟨v,vs',rfl,h1,h2⟩:=h
   obtain⟨u,us,rfl,h3,h4⟩:=h2
   exact⟨_,rfl,h'⟩
def dU_ (n:Nat) (args:List AV) (bi:Bxs):St:=⟨args++List.replicate (n-args.length) (.d .any),bi,[]⟩
theorem cu_ {w:World} {I:Nat→Prop} {β:Nat→Value}:∀ (vs:List Value),DenAs w I β (List.replicate vs.length (.d .any)) vs
 | []=>rfl
 | v::vs=>⟨v,vs,rfl,bL_ _ _ _ _,cu_ vs⟩
theorem ad_ {P:Program} {τ:Tab} (hτ:ay_ P τ) {f:FuncId} {fn:Func} {c:Code} (hf:P.funcs[f]? = some fn) (hb:fn.body=some c) {args:List AV} {bi:Bxs} {res:AV} {bo:Bxs} {pn:Pn}
  (h:∀ β0,WP P ⟨[],β0,none,false⟩ pn c (finQ τ fn.results.toList res bo) (dU_ fn.ntmps args bi)):Fun P f args bi res bo pn.ok:=by
 intro w I β vs hm hd
 refine calls_of_wp hf hb (wp_mono (wpIn_wide.1 (h β w I (Fp bi β) I β _ w ⟨hm,?_,⟨rfl,fun _=>rfl⟩,fun _ _=>rfl⟩)) fun e a' w' hh=>?_)
 ·simp only[dU_,Array.toList_append,Array.toList_replicate]
  rw[hd.length]
  have:=cu_ (w:=w) (I:=I) (β:=β) (List.replicate (fn.ntmps-vs.length) undef)
  simp only[List.length_replicate] at this
  exact hd.append (by simpa using this)
 ·have fin:(∃ S I' β',(∃ S',Wk S S'∧r6_ τ fn.results.toList res bo S')∧Rel ⟨[],β,none,false⟩ w I (Fp bi β) S I' β' a' w')→a'.defers=[]∧∃ v,(results fn a'.tmps).run P w'=.ok v w'∧∃ I' β',Mem w I (Fp bi β) bo I' β' w'∧DenA w' I' β' res v∧∀ k,1000≤k→β' k=β k:=by
   rintro⟨S,I1,β1,⟨S',hw,side,l,hl,hs,hle,hbo⟩,hr1⟩
   obtain⟨I',β',hr⟩:=hw _ _ _ _ _ _ _ _ hr1
   obtain⟨us,hus,hdu⟩:=dW_ hτ hr _ hl hs
   exact⟨hr.dn.pan rfl,_,cr_ fn a'.tmps P w' us hus,I',β',hr.mem.sub hbo,hle _ _ _ _ hdu.one,hr.fx⟩
  cases e with
  | normal=>exact fin hh
  | ret=>exact fin hh
  | panic ch =>
   obtain⟨hok,bx,I',β',hp⟩:=hh
   exact⟨hp.dn rfl,hok,I',β',hp.mem.sub (by simp[getB])⟩
  | exit id=>obtain⟨S,I',β',hq,_⟩:=hh;exact hq.elim
  | goto l=>obtain⟨S,I',β',hq,_⟩:=hh;exact hq.elim
  | outgrown=>exact hh.elim
end Go.Xe
namespace Go.Xe
open Go.RowKit
variable [Glob]
mutual
def ren (ρ:Nat→Nat):AV→AV
 | .d x=>.d x
 | .ptr k off=>.ptr (ρ k) off
 | .agg cs=>.agg (renL ρ cs)
 | .tup cs=>.tup (renL ρ cs)
 | .fn f a b=>.fn f (renL ρ a) (renL ρ b)
 | .row k=>.row (ρ k)
 | .rptr k off=>.rptr (ρ k) off
 | .psl k off n c=>.psl (ρ k) off n c
 | .rsl k off n=>.rsl (ρ k) off n
 | .iface t x=>.iface t (ren ρ x)
 | .when b x=>.when b (ren ρ x)
def renL (ρ:Nat→Nat):List AV→List AV
 | []=>[]
 | x::xs=>ren ρ x::renL ρ xs
end
mutual
theorem dI_ {w:World} {I:Nat→Prop} {β:Nat→Value} {ρ:Nat→Nat}:∀ (x:AV) (y:Value),DenA w I β (ren ρ x) y↔DenA w I (fun k=>β (ρ k)) x y
 | .d x,y=>by rw[ren,DenA,DenA]
 | .ptr k off,y=>by rw[ren,DenA,DenA]
 | .agg cs,y=>by rw[ren,DenA,DenA];exact⟨fun ⟨vs,e,h⟩=>⟨vs,e,(aP_ cs vs).1 h⟩,fun ⟨vs,e,h⟩=>⟨vs,e,(aP_ cs vs).2 h⟩⟩
 | .tup cs,y=>by rw[ren,DenA,DenA];exact⟨fun ⟨vs,e,h⟩=>⟨vs,e,(aP_ cs vs).1 h⟩,fun ⟨vs,e,h⟩=>⟨vs,e,(aP_ cs vs).2 h⟩⟩
 | .fn f a b,y=>by
  rw[ren,DenA,DenA]
  exact⟨fun ⟨v1,v2,e,h1,h2⟩=>⟨v1,v2,e,(aP_ a v1).1 h1,(aP_ b v2).1 h2⟩,fun ⟨v1,v2,e,h1,h2⟩=>⟨v1,v2,e,(aP_ a v1).2 h1,(aP_ b v2).2 h2⟩⟩
 | .row k,y=>by rw[ren,DenA,DenA]
 | .rptr k off,y=>by rw[ren,DenA,DenA]
 | .psl k off n c,y=>by rw[ren,DenA,DenA]
 | .rsl k off n,y=>by rw[ren,DenA,DenA]
 | .iface t x,y=>by rw[ren,DenA,DenA];exact⟨fun ⟨z,e,h⟩=>⟨z,e,(dI_ x z).1 h⟩,fun ⟨z,e,h⟩=>⟨z,e,(dI_ x z).2 h⟩⟩
 | .when b x,y=>by rw[ren,DenA,DenA];exact⟨fun h=>⟨fun e=>(dI_ x y).1 (h.1 e),h.2⟩,fun h=>⟨fun e=>(dI_ x y).2 (h.1 e),h.2⟩⟩
theorem aP_ {w:World} {I:Nat→Prop} {β:Nat→Value} {ρ:Nat→Nat}:∀ (l:List AV) (vs:List Value),DenAs w I β (renL ρ l) vs↔DenAs w I (fun k=>β (ρ k)) l vs
 | [],vs=>by rw[renL,DenAs,DenAs]
 | x::xs,vs=>by
  rw[renL,DenAs,DenAs]
  exact⟨fun ⟨v,vs',e,h1,h2⟩=>⟨v,vs',e,(dI_ x v).1 h1,(aP_ xs vs').1 h2⟩,fun ⟨v,vs',e,h1,h2⟩=>⟨v,vs',e,(dI_ x v).2 h1,(aP_ xs vs').2 h2⟩⟩
end
def Box.ren (ρ:Nat→Nat):Box→Box
 | .cells T cs=>.cells T (renL ρ cs)
 | .row T sz n cs=>.row T sz n (renL ρ cs)
 | .obj b o=>.obj b o
 | .mp kvs=>.mp kvs
 | .opq p=>.opq p
theorem gO_ {w:World} {I:Nat→Prop} {β:Nat→Value} {ρ:Nat→Nat} {y:Value} {b:Box}:BoxRel w I β y (b.ren ρ)↔BoxRel w I (fun k=>β (ρ k)) y b:=by
 cases b with
 | cells T cs=>exact⟨fun ⟨g,vs,e,h,hd,ho⟩=>⟨g,vs,e,h,(aP_ cs vs).1 hd,ho⟩,fun ⟨g,vs,e,h,hd,ho⟩=>⟨g,vs,e,h,(aP_ cs vs).2 hd,ho⟩⟩
 | row T sz n cs=>exact⟨fun ⟨vs,h,hd,ho⟩=>⟨vs,h,(aP_ cs vs).1 hd,ho⟩,fun ⟨vs,h,hd,ho⟩=>⟨vs,h,(aP_ cs vs).2 hd,ho⟩⟩
 | obj g o=>exact .rfl
 | mp kvs=>exact .rfl
 | opq p=>exact .rfl
def BoxLeq:Box→Box→Prop
 | .cells T cs,.cells T' cs'=>T=T'∧LeqL cs cs'
 | .row T sz n cs,.row T' sz' n' cs'=>T=T'∧sz=sz'∧n=n'∧LeqL cs cs'
 | .obj b o,.obj b' o'=>b=b'∧o=o'
 | .mp kvs,.mp kvs'=>kvs=kvs'
 | .opq p,.opq p'=>p=p'
 | _,_=>False
theorem BoxLeq.refl:∀ b,BoxLeq b b
 | .cells _ _=>⟨rfl,.refl _⟩
 | .row .. => ⟨rfl,rfl,rfl,.refl _⟩
 | .obj .. => ⟨rfl,rfl⟩
 | .mp .. => rfl
 | .opq .. => rfl
theorem BoxLeq.ok {w:World} {I:Nat→Prop} {β:Nat→Value} {y:Value}:∀ {b b':Box},BoxLeq b b'→BoxRel w I β y b→BoxRel w I β y b'
 | .cells _ _,.cells _ _,⟨rfl,h⟩,⟨g,vs,e,hh,hd,ho⟩=>⟨g,vs,e,hh,h.ok hd,ho⟩
 | .row ..,.row ..,⟨rfl,rfl,rfl,h⟩,⟨vs,hh,hd,ho⟩=>⟨vs,hh,h.ok hd,ho⟩
 | .obj ..,.obj ..,⟨rfl,rfl⟩,h=>h
 | .opq _,.opq _,h,h'=>by cases h;exact h'
 | .mp _,.mp _,h,h'=>by cases h;exact h'
 | .mp _,.cells ..,h,_=>h.elim
 | .mp _,.row ..,h,_=>h.elim
 | .mp _,.obj ..,h,_=>h.elim
 | .mp _,.opq _,h,_=>h.elim
 | .cells ..,.mp _,h,_=>h.elim
 | .row ..,.mp _,h,_=>h.elim
 | .obj ..,.mp _,h,_=>h.elim
 | .opq _,.mp _,h,_=>h.elim
 | .cells ..,.row ..,h,_=>h.elim
 | .cells ..,.obj ..,h,_=>h.elim
 | .cells ..,.opq _,h,_=>h.elim
 | .row ..,.cells ..,h,_=>h.elim
 | .row ..,.obj ..,h,_=>h.elim
 | .row ..,.opq _,h,_=>h.elim
 | .obj ..,.cells ..,h,_=>h.elim
 | .obj ..,.row ..,h,_=>h.elim
 | .obj ..,.opq _,h,_=>h.elim
 | .opq _,.cells ..,h,_=>h.elim
 | .opq _,.row ..,h,_=>h.elim
 | .opq _,.obj ..,h,_=>h.elim
structure Body (P:Program) (f:FuncId):Prop where
 ok : ∃ fn c, P.funcs[f]? = some fn ∧ fn.body = some c ∧ (fn.name == "runtime.NumGoroutine") = false
def qL_:AV→Option (FuncId×List AV×List AV)
 | .d (.v (.func (.func f) a b))=>some (f,a.toList.map fun x=>.d (.v x),b.toList.map fun x=>.d (.v x))
 | .fn (.func f) a b=>some (f,a,b)
 | _=>none
theorem uk_ {w:World} {I:Nat→Prop} {β:Nat→Value} {x:AV} {y:Value} {f:FuncId} {a b:List AV} (h:qL_ x=some (f,a,b)) (hd:DenA w I β x y):∃ va vb:List Value,y=.func (.func f) va.toArray vb.toArray∧DenAs w I β a va∧DenAs w I β b vb:=by
 unfold qL_ at h
 split at h
 ·rename_i f' a' b'
  cases h
  rw[DenA_v] at hd
  exact⟨a'.toList,b'.toList,by rw[hd,Array.toArray_toList,Array.toArray_toList],bj_ _,bj_ _⟩
 ·cases h;exact hd
 ·cases h
theorem vS_ {P:Program} {o:Oper} {a:Act} {w:World} {fx:Operand} {args:Array Operand} {ts:Array TypeId} (ho:o.op=.call ⟨.value fx,args,ts⟩) {f:FuncId} (hb:Body P f) {va vb:List Value} (hf:a.eval fx=.func (.func f) va.toArray vb.toArray) :
  (execOp a.eval o).run P w=.ok (.enter f (va++(args.toList.map a.eval)++vb).toArray) w:=by
 obtain⟨fn,c,h1,h2,h3⟩:=hb.ok
 have e:(va.toArray++args.map a.eval++vb.toArray:Array Value)=(va++(args.toList.map a.eval)++vb).toArray:=by
  apply Array.ext';simp
 simp only[execOp,ho,resolve,hf,Deferred.ofValue,Sem.run_bind,Sem.run_pure,Result.andThen_ok,invoke,callFunc,run_program,h1,h3,h2,Bool.false_eq_true,if_false,Option.isNone_some]
 rw[← e]
def isIn (cbi:Bxs) (k:Nat):Bool:=(getB cbi k).isSome
def eO_ (ρ:Nat→Nat) (cbi:Bxs):Bxs→Bxs
 | []=>[]
 | (k,b)::r=>if isIn cbi k=true then (ρ k,b.ren ρ)::eO_ ρ cbi r else eO_ ρ cbi r
def cB_ (ρ:Nat→Nat) (cbi:Bxs):Bxs→Bxs
 | []=>[]
 | (k,b)::r=>if isIn cbi k=true then cB_ ρ cbi r else (ρ k,b.ren ρ)::cB_ ρ cbi r
theorem gr_ {ρ:Nat→Nat} {cbi:Bxs}:∀ {cbo:Bxs} {p:Nat×Box},p∈eO_ ρ cbi cbo→∃ k b,(k,b)∈cbo∧isIn cbi k=true∧p=(ρ k,b.ren ρ)
 | (k,b)::r,p,h=>by
  simp only[eO_] at h
  split at h
  ·rename_i hk
   rcases List.mem_cons.1 h with rfl|h
   ·exact⟨k,b,by simp,hk,rfl⟩
   ·obtain⟨k',b',h1,h2,h3⟩:=gr_ h;exact⟨k',b',by simp[h1],h2,h3⟩
  ·obtain⟨k',b',h1,h2,h3⟩:=gr_ h;exact⟨k',b',by simp[h1],h2,h3⟩
theorem gs_ {ρ:Nat→Nat} {cbi:Bxs}:∀ {cbo:Bxs} {p:Nat×Box},p∈cB_ ρ cbi cbo→∃ k b,(k,b)∈cbo∧isIn cbi k=false∧p=(ρ k,b.ren ρ)
 | (k,b)::r,p,h=>by
  simp only[cB_] at h
  split at h
  ·obtain⟨k',b',h1,h2,h3⟩:=gs_ h;exact⟨k',b',by simp[h1],h2,h3⟩
  ·rename_i hk
   rcases List.mem_cons.1 h with rfl|h
   ·exact⟨k,b,by simp,by simpa using hk,rfl⟩
   ·obtain⟨k',b',h1,h2,h3⟩:=gs_ h;exact⟨k',b',by simp[h1],h2,h3⟩
theorem db_ {ρ:Nat→Nat} {cbi:Bxs}:∀ {cbo:Bxs} {k:Nat} {b:Box},(k,b)∈cbo→isIn cbi k=false→(ρ k,b.ren ρ)∈cB_ ρ cbi cbo
 | (k',b')::r,k,b,h,hk=>by
  simp only[cB_]
  rcases List.mem_cons.1 h with h|h
  ·cases h;rw[hk];simp
  ·split
   ·exact db_ h hk
   ·exact List.mem_cons_of_mem _ (db_ h hk)
theorem gq_ {ρ:Nat→Nat} {cbi:Bxs}:∀ {cbo:Bxs} {k:Nat} {b:Box},(k,b)∈cbo→isIn cbi k=true→(ρ k,b.ren ρ)∈eO_ ρ cbi cbo
 | (k',b')::r,k,b,h,hk=>by
  simp only[eO_]
  rcases List.mem_cons.1 h with h|h
  ·cases h;rw[hk];simp
  ·split
   ·exact List.mem_cons_of_mem _ (gq_ h hk)
   ·exact gq_ h hk
theorem getB_adds:∀ (l bx:Bxs) {j:Nat} {b:Box},getB (dz_ bx l) j=some b→(j,b)∈l∨((∀ c,(j,c)∉l)∧getB bx j=some b)
 | [],bx,j,b,h=>.inr ⟨by simp,h⟩
 | (k,c)::l,bx,j,b,h=>by
  rcases getB_adds l _ h with h|⟨h1,h2⟩
  ·exact .inl (by simp[h])
  ·rw[br_] at h2
   split at h2
   ·rename_i e;subst e;cases h2;exact .inl (by simp)
   ·rename_i e
    refine .inr ⟨fun c' hc=>?_,h2⟩
    rcases List.mem_cons.1 hc with hc|hc
    ·cases hc;exact e rfl
    ·exact h1 c' hc
structure CallOk (S:St) (ρ:Nat→Nat) (cbi cbo:Bxs) (cres:AV):Prop where
 low:∀ p∈cbi,1000≤p.1
 box:∀ p∈cbi,∃ b,getB S.bx (ρ p.1)=some b∧BoxLeq b (p.2.ren ρ)
 nd:∀ p∈cbo,getB cbo p.1=some p.2
 inj:∀ k j,(isIn cbi k=true∨isIn cbo k=true)→(isIn cbi j=true∨isIn cbo j=true)→ρ k=ρ j→k=j
 tg:∀ t,(t∈a7_ cres∨∃ p∈cbo,t∈aC_ p.2.cs)→isIn cbo t=true
theorem aE_:∀ {bx:Bxs} {k:Nat} {b:Box},getB bx k=some b→(k,b)∈bx
 | (j,c)::r,k,b,h=>by
  simp only[getB] at h
  split at h
  ·rename_i e;subst e;cases h;simp
  ·simp[aE_ h]
theorem d4_ {k:Nat} {l:List AV} (h:am_ k l=true):k∈aC_ l:=by rw[cw_] at h;simpa using h
theorem wp_ {k:Nat} {l:AV} (h:AV.has k l=true):k∈a7_ l:=by rw[fr_] at h;simpa using h
def callE (ρ:Nat→Nat) (cbi cbo:Bxs) (cres:AV):Eff:=⟨ren ρ cres,cbi.map fun p=>ρ p.1,eO_ ρ cbi cbo,cB_ ρ cbi cbo⟩
theorem Rel.handed {ds:Dn} {w0:World} {I0 F:Nat→Prop} {S1:St} {I:Nat→Prop} {β:Nat→Value} {a:Act} {w:World} (hr:Rel ds w0 I0 F S1 I β a w) {ρ:Nat→Nat} {cbi cbo:Bxs} {cres:AV} (hok:CallOk S1 ρ cbi cbo cres) :
  Mem w I (Fp cbi fun k=>β (ρ k)) cbi I (fun k=>β (ρ k)) w:=by
 have inD:∀ {k b},getB cbi k=some b→isIn cbi k=true:=fun h=>by simp[isIn,h]
 have hbox:∀ {k b},getB cbi k=some b→∃ b',getB S1.bx (ρ k)=some b'∧BoxLeq b' (b.ren ρ):=fun {k b} h=>hok.box (k,b) (aE_ h)
 refine⟨fun k b h=>?_,fun k b n h hn=>?_,fun k j b c n h1 h2 hi hj=>?_,hr.mem.im,fun n h=>.inl h,.refl w I,fun _ _ _=>rfl,Nat.le_refl _,rfl,rfl,rfl,Nat.le_refl _,hr.mem.glNow⟩
 ·obtain⟨b',h1,h2⟩:=hbox h;exact gO_.1 (h2.ok (hr.mem.bxs _ _ h1))
 ·obtain⟨b',h1,_⟩:=hbox h;exact⟨(hr.mem.sep _ b' n h1 hn).1,.inl ⟨k,b,h,hn⟩⟩
 ·obtain⟨b',h1',_⟩:=hbox h1
  obtain⟨c',h2',_⟩:=hbox h2
  exact hok.inj k j (.inl (inD h1)) (.inl (inD h2)) (hr.mem.inj _ _ b' c' n h1' h2' hi hj)
theorem CallOk.same {S S1:St} {ρ:Nat→Nat} {cbi cbo:Bxs} {cres:AV} (h:CallOk S ρ cbi cbo cres) (hs:∀ k∈cbi.map fun p=>ρ p.1,getB S1.bx k=getB S.bx k):CallOk S1 ρ cbi cbo cres :=
 ⟨h.low,fun p hp=>by obtain⟨b,h1,h2⟩:=h.box p hp;exact⟨b,by rw[hs _ (List.mem_map.2 ⟨p,hp,rfl⟩)];exact h1,h2⟩,h.nd,h.inj,h.tg⟩
theorem Rel.called {ds:Dn} {w0:World} {I0 F:Nat→Prop} {S1:St} {I:Nat→Prop} {β:Nat→Value} {a:Act} {w:World} (hr:Rel ds w0 I0 F S1 I β a w) {ρ:Nat→Nat} {cbi cbo:Bxs} {cres:AV} (hok:CallOk S1 ρ cbi cbo cres)
  (hfresh:∀ p∈cB_ ρ cbi cbo,S1.has p.1=false) {I':Nat→Prop} {β':Nat→Value} {w':World} (hm:Mem w I (Fp cbi fun k=>β (ρ k)) cbo I' β' w') {v:Value} (hres:DenA w' I' β' cres v) (hfx:∀ k,1000≤k→β' k=β (ρ k)) (dst:Option Tmp) :
  ∃ β2,Rel ds w0 I0 F (S1.app dst (callE ρ cbi cbo cres)) I' β2 (a.put dst v) w':=by
 have inD:∀ {k b},getB cbi k=some b→isIn cbi k=true:=fun h=>by simp[isIn,h]
 have outD:∀ {k b},getB cbo k=some b→isIn cbo k=true:=fun h=>by simp[isIn,h]
 have hbox:∀ {k b},getB cbi k=some b→∃ b',getB S1.bx (ρ k)=some b'∧BoxLeq b' (b.ren ρ):=fun {k b} h=>hok.box (k,b) (aE_ h)
 have hFc:∀ n,Fp cbi (fun k=>β (ρ k)) n→F n∨w0.heap.size≤n:=fun n ⟨k,b,hk,hn⟩=>by
  obtain⟨b',h1,_⟩:=hbox hk
  exact (hr.mem.sep _ b' n h1 hn).2
 have hout:∀ j b n,getB S1.bx j=some b→(∀ p∈cbi,ρ p.1≠j)→Blk (β j) n→¬ Fp cbi (fun k=>β (ρ k)) n:=fun j b n hj hne hn ⟨k,c,hk,hkn⟩=>by
  obtain⟨b',h1,_⟩:=hbox hk
  exact hne (k,c) (aE_ hk) (hr.mem.inj _ _ b' b n h1 hj hkn hn)
 have hk:Kept w I w' I':=hm.kept
 -- where the caller's tags lead now
 obtain⟨β2,hβ1,hβ2⟩:∃ β2:Nat→Value,(∀ k,isIn cbo k=true→β2 (ρ k)=β' k)∧∀ j,(∀ k,isIn cbo k=true→ρ k≠j)→β2 j=β j:=by
  refine⟨fun j=>Classical.epsilon fun y=>(∀ k,isIn cbo k=true→ρ k=j→y=β' k)∧((∀ k,isIn cbo k=true→ρ k≠j)→y=β j),fun k hk=>?_,fun j hj=>?_⟩
  ·have:=Classical.epsilon_spec (p:=fun y=>(∀ k',isIn cbo k'=true→ρ k'=ρ k→y=β' k')∧((∀ k',isIn cbo k'=true→ρ k'≠ρ k)→y=β (ρ k))) ⟨β' k,fun k' h1 h2=>by rw[hok.inj k' k (.inr h1) (.inr hk) h2],fun h=>absurd rfl (h k hk)⟩
   exact this.1 k hk rfl
  ·have:=Classical.epsilon_spec (p:=fun y=>(∀ k',isIn cbo k'=true→ρ k'=j→y=β' k')∧((∀ k',isIn cbo k'=true→ρ k'≠j)→y=β j)) ⟨β j,fun k' h1 h2=>absurd h2 (hj k' h1),fun _=>rfl⟩
   exact this.2 hj
 have hlowIn:∀ k,isIn cbi k=true→1000≤k:=fun k h=>by
  cases hg:getB cbi k with
  | none=>simp[isIn,hg] at h
  | some b=>exact hok.low (k,b) (aE_ hg)
 -- tags that the caller's state bears lead where they led
 have hold:∀ j,S1.has j=true→β2 j=β j:=fun j hj=>by
  by_cases h:∃ k,isIn cbo k=true∧ρ k=j
  ·obtain⟨k,h1,rfl⟩:=h
   rw[hβ1 k h1]
   cases hin:isIn cbi k with
   | true=>rw[hfx k (hlowIn k hin)]
   | false =>
    cases hg:getB cbo k with
    | none=>simp[isIn,hg] at h1
    | some b =>
     have:=hfresh _ (db_ (ρ:=ρ) (aE_ hg) hin)
     rw[hj] at this;cases this
  ·exact hβ2 j fun k h1 h2=>h ⟨k,h1,h2⟩
 have hasSl:∀ j,am_ j S1.sl=true→S1.has j=true:=fun j h=>by simp[St.has,h]
 have hasBx:∀ j b,getB S1.bx j=some b→S1.has j=true:=fun j b h=>by
  cases hh:S1.has j with
  | true=>rfl
  | false=>have:=(hasB_get (aK_ hh).2).1;rw[h] at this;cases this
 have hasIn:∀ t j b,getB S1.bx j=some b→am_ t b.cs=true→S1.has t=true:=fun t j b h ht=>by
  cases hh:S1.has t with
  | true=>rfl
  | false=>have:=(hasB_get (aK_ hh).2).2 j b h;rw[ht] at this;cases this
 have hrenA:∀ (x:AV) y,(∀ t,t∈a7_ x→isIn cbo t=true)→DenA w' I' β' x y→DenA w' I' β2 (ren ρ x) y:=fun x y ht h=>by
  rw[dI_]
  exact DenA.mono (.refl w' I') x y (fun t htt=>hβ1 t (ht t (wp_ htt))) h
 -- which boxes there are
 have hget:∀ j b,getB (S1.app dst (callE ρ cbi cbo cres)).bx j=some b→(∃ k c,getB cbo k=some c∧ρ k=j∧b=c.ren ρ)∨(getB S1.bx j=some b∧(∀ p∈cbi,ρ p.1≠j)∧∀ k,isIn cbo k=true→ρ k≠j):=fun j b h=>by
  rw[bn_] at h
  rcases getB_adds _ _ h with h|⟨h1,h⟩
  ·obtain⟨k,c,hk,_,e⟩:=gs_ h
   cases e
   exact .inl ⟨k,c,hok.nd (k,c) hk,rfl,rfl⟩
  ·rcases getB_adds _ _ h with h|⟨h2,h⟩
   ·obtain⟨k,c,hk,_,e⟩:=gr_ h
    cases e
    exact .inl ⟨k,c,hok.nd (k,c) hk,rfl,rfl⟩
   ·rw[dd_] at h
    split at h
    ·cases h
    ·rename_i hd
     refine .inr ⟨h,fun p hp e=>hd (List.mem_map.2 ⟨p,hp,e⟩),fun k hk e=>?_⟩
     cases hg:getB cbo k with
     | none=>simp[isIn,hg] at hk
     | some c =>
      have hmem:=aE_ hg
      cases hin:isIn cbi k with
      | true=>exact h2 (c.ren ρ) (by rw[← e];exact gq_ hmem hin)
      | false=>exact h1 (c.ren ρ) (by rw[← e];exact db_ hmem hin)
 have hβj:∀ j b,getB S1.bx j=some b→(∀ k,isIn cbo k=true→ρ k≠j)→β2 j=β j:=fun j b _ h=>hβ2 j h
 have hnewblk:∀ k c n,getB cbo k=some c→Blk (β' k) n→Fp cbi (fun k=>β (ρ k)) n∨w.heap.size≤n:=fun k c n h hn=>(hm.sep k c n h hn).2
 refine⟨β2,?_⟩
 have hmem:Mem w0 I0 F (S1.app dst (callE ρ cbi cbo cres)).bx I' β2 w':=by
  refine⟨fun j b h=>?_,fun j b n h hn=>?_,fun i j b c n h1 h2 hi hj=>?_,hm.im,fun n h=>?_,hr.mem.kept.trans hk,fun n hn hF=>?_,Nat.le_trans hr.mem.sz hm.sz,hm.os.trans hr.mem.os,hm.tape.trans hr.mem.tape,hm.out.trans hr.mem.out,Nat.le_trans hr.mem.dr hm.dr,hr.mem.gl⟩
  ·rcases hget j b h with⟨k,c,hg,rfl,rfl⟩|⟨h1,h2,h3⟩
   ·rw[hβ1 k (outD hg)]
    refine gO_.2 ((hm.bxs k c hg).mono (.refl w' I') (fun t ht=>?_) (fun _ _=>rfl))
    exact hβ1 t (hok.tg t (.inr ⟨(k,c),aE_ hg,d4_ ht⟩))
   ·rw[hβ2 j h3]
    have hb:=hr.mem.bxs j b h1
    exact hb.mono hk (fun t ht=>hold t (hasIn t j b h1 ht)) fun n hn=>hm.fr n (hb.lt hn) (hout j b n h1 h2 hn)
  ·rcases hget j b h with⟨k,c,hg,rfl,rfl⟩|⟨h1,h2,h3⟩
   ·rw[hβ1 k (outD hg)] at hn
    refine⟨(hm.sep k c n hg hn).1,?_⟩
    rcases (hm.sep k c n hg hn).2 with h4|h4
    ·exact hFc n h4
    ·exact .inr (Nat.le_trans hr.mem.sz h4)
   ·rw[hβ2 j h3] at hn
    refine⟨fun hI=>?_,(hr.mem.sep j b n h1 hn).2⟩
    rcases hm.inew n hI with h4|h4|h4
    ·exact (hr.mem.sep j b n h1 hn).1 h4
    ·exact hout j b n h1 h2 hn h4
    ·have:=(hr.mem.bxs j b h1).lt hn;omega
  ·have cross:∀ k c j b,getB cbo k=some c→Blk (β' k) n→getB S1.bx j=some b→(∀ p∈cbi,ρ p.1≠j)→Blk (β j) n→False:=fun k c j b hg hkn hj hne hjn=>by
    rcases hnewblk k c n hg hkn with h4|h4
    ·exact hout j b n hj hne hjn h4
    ·have:=(hr.mem.bxs j b hj).lt hjn;omega
   rcases hget i b h1 with⟨k,c1,hg,rfl,rfl⟩|⟨h3,h4,h5⟩<;>rcases hget j c h2 with⟨k',c2,hg',rfl,rfl⟩|⟨h6,h7,h8⟩
   ·rw[hβ1 k (outD hg)] at hi
    rw[hβ1 k' (outD hg')] at hj
    rw[hm.inj k k' _ _ n hg hg' hi hj]
   ·rw[hβ1 k (outD hg)] at hi
    rw[hβ2 j h8] at hj
    exact (cross k _ j c hg hi h6 h7 hj).elim
   ·rw[hβ2 i h5] at hi
    rw[hβ1 k' (outD hg')] at hj
    exact (cross k' _ i b hg' hj h3 h4 hi).elim
   ·rw[hβ2 i h5] at hi
    rw[hβ2 j h8] at hj
    exact hr.mem.inj i j b c n h3 h6 hi hj
  ·rcases hm.inew n h with h3|h3|h3
   ·exact hr.mem.inew n h3
   ·exact .inr (hFc n h3)
   ·exact .inr (.inr (Nat.le_trans hr.mem.sz h3))
  ·rw[hm.fr n (Nat.lt_of_lt_of_le hn hr.mem.sz) (fun h3=>by rcases hFc n h3 with h4|h4;exact hF h4;omega),hr.mem.fr n hn hF]
 have hsl:DenAs w' I' β2 S1.sl a.tmps.toList:=DenAs.mono hk _ _ (fun t ht=>hold t (hasSl t ht)) hr.sl
 have hfx2:∀ k,1000≤k→β2 k=ds.β0 k:=fun k hk9=>by
  by_cases h:∃ t,isIn cbo t=true∧ρ t=k
  ·obtain⟨t,h1,rfl⟩:=h
   rw[hβ1 t h1]
   cases hin:isIn cbi t with
   | true=>rw[hfx t (hlowIn t hin)];exact hr.fx _ hk9
   | false =>
    cases hg:getB cbo t with
    | none=>simp[isIn,hg] at h1
    | some b =>
     have:=ck_ (hfresh _ (db_ (ρ:=ρ) (aE_ hg) hin))
     simp only at this;omega
  ·rw[hβ2 k fun t h1 h2=>h ⟨t,h1,h2⟩];exact hr.fx k hk9
 have hr2:Rel ds w0 I0 F ⟨S1.sl,(S1.app dst (callE ρ cbi cbo cres)).bx,S1.df⟩ I' β2 a w':=⟨hmem,hsl,hr.dn,hfx2⟩
 have:=hr2.put dst (hrenA cres v (fun t ht=>hok.tg t (.inl ht)) hres)
 have e:(St.mk S1.sl (S1.app dst (callE ρ cbi cbo cres)).bx S1.df).put dst (ren ρ cres)=S1.app dst (callE ρ cbi cbo cres):=by
  rw[bn_];cases dst<;>rfl
 rw[e] at this
 exact this
theorem LCore.call {P:Program} {ds:Dn} {pn:Pn} {o:Oper} {S:St} {fx:Operand} {args:Array Operand} {ts:Array TypeId} (ho:o.op=.call ⟨.value fx,args,ts⟩) {f:FuncId} {first caps:List AV}
  (hf:qL_ (S.ev fx)=some (f,first,caps)) (hb:Body P f) {cargs:List AV} {cbi:Bxs} {cres:AV} {cbo:Bxs} {ok:List PanicEntry→Prop} (hc:Fun P f cargs cbi cres cbo ok) (ρ:Nat→Nat)
  (hargs:LeqL (first++args.toList.map S.ev++caps) (renL ρ cargs)) (hok:CallOk S ρ cbi cbo cres)
  (hpn:∀ ch,ok ch→pn.ok ch) (hzs:(∃ ch,ok ch)→∀ p∈pn.zs,S.at p.1=p.2) (hZ:(∃ ch,ok ch)→∀ p∈cbi,pn.Z.contains (ρ p.1)=false) :
  LCore P ds pn o S (callE ρ cbi cbo cres) (cbi.map fun p=>ρ p.1):=by
 intro S1 hs hfresh w0 I0 F I β a w hr next Q hn hp
 have efx:S1.ev fx=S.ev fx:=hs.1 fx (by simp[ho,Op.operands,Call.operands])
 have eargs:args.toList.map S.ev=args.toList.map S1.ev:=List.map_congr_left fun x hx=>(hs.1 x (by simp[ho,Op.operands,Call.operands];exact .inr (by simpa using hx))).symm
 rw[← efx] at hf
 rw[eargs] at hargs
 obtain⟨va,vb,e1,hda,hdb⟩:=uk_ hf (hr.ev fx)
 have hrun:=vS_ (P:=P) (w:=w) ho hb e1
 have hdargs:DenAs w I β (renL ρ cargs) (va++args.toList.map a.eval++vb):=hargs.ok ((hda.append (eq_ hr _)).append hdb)
 rw[aP_] at hdargs
 have inD:∀ {k b},getB cbi k=some b→isIn cbi k=true:=fun h=>by simp[isIn,h]
 have outD:∀ {k b},getB cbo k=some b→isIn cbo k=true:=fun h=>by simp[isIn,h]
 have hbox:∀ {k b},getB cbi k=some b→∃ b',getB S1.bx (ρ k)=some b'∧BoxLeq b' (b.ren ρ):=fun {k b} h=>by
  obtain⟨b',h1,h2⟩:=hok.box (k,b) (aE_ h)
  exact⟨b',by rw[hs.2.2 (ρ k) (List.mem_map.2 ⟨(k,b),aE_ h,rfl⟩)];exact h1,h2⟩
 have hm0:Mem w I (Fp cbi fun k=>β (ρ k)) cbi I (fun k=>β (ρ k)) w:=by
  refine⟨fun k b h=>?_,fun k b n h hn=>?_,fun k j b c n h1 h2 hi hj=>?_,hr.mem.im,fun n h=>.inl h,.refl w I,fun _ _ _=>rfl,Nat.le_refl _,rfl,rfl,rfl,Nat.le_refl _,hr.mem.glNow⟩
  ·obtain⟨b',h1,h2⟩:=hbox h;exact gO_.1 (h2.ok (hr.mem.bxs _ _ h1))
  ·obtain⟨b',h1,_⟩:=hbox h;exact⟨(hr.mem.sep _ b' n h1 hn).1,.inl ⟨k,b,h,hn⟩⟩
  ·obtain⟨b',h1',_⟩:=hbox h1
   obtain⟨c',h2',_⟩:=hbox h2
   exact hok.inj k j (.inl (inD h1)) (.inl (inD h2)) (hr.mem.inj _ _ b' c' n h1' h2' hi hj)
 have hcall:=hc w I (fun k=>β (ρ k)) _ hm0 hdargs
 refine⟨fun _ _=>trivial,?_⟩
 rw[Oper.semAt_eq _ _ _ (fun c h=>by rw[ho] at h;cases h),hrun,Oper.uponIn_enter]
 refine⟨(fun h=>by cases h),callsIn_fO (hcall.mono fun e w' he=>?_)⟩
 -- of every box that the call was not handed: its block is as it was
 have hFc:∀ n,Fp cbi (fun k=>β (ρ k)) n→F n∨w0.heap.size≤n:=fun n ⟨k,b,hk,hn⟩=>by
  obtain⟨b',h1,_⟩:=hbox hk
  exact (hr.mem.sep _ b' n h1 hn).2
 have hout:∀ j b n,getB S1.bx j=some b→(∀ p∈cbi,ρ p.1≠j)→Blk (β j) n→¬ Fp cbi (fun k=>β (ρ k)) n:=fun j b n hj hne hn ⟨k,c,hk,hkn⟩=>by
  obtain⟨b',h1,_⟩:=hbox hk
  exact hne (k,c) (aE_ hk) (hr.mem.inj _ _ b' b n h1 hj hkn hn)
 cases e with
 | outgrown=>exact he.elim
 | panicked ch =>
  obtain⟨hch,I',β',hm⟩:=he
  refine hp ch I' β w' (hpn ch hch) ?_
  have hk:Kept w I w' I':=hm.kept
  have hkeep:∀ j b,getB (iO_ S1.bx pn.Z) j=some b→getB S1.bx j=some b∧pn.Z.contains j=true:=by
   have:∀ (bx:Bxs) j b,getB (iO_ bx pn.Z) j=some b→getB bx j=some b∧pn.Z.contains j=true:=by
    intro bx
    induction bx with
    | nil=>intro j b h;cases h
    | cons p r ih =>
     obtain⟨k,c⟩:=p
     intro j b h
     simp only[iO_] at h
     split at h
     ·rename_i hz
      simp only[getB] at h ⊢
      split at h
      ·rename_i e;subst e;rw[if_pos rfl];exact⟨h,hz⟩
      ·rename_i e;rw[if_neg e];exact ih j b h
     ·rename_i hz
      have:=ih j b h
      simp only[getB]
      split
      ·rename_i e;subst e;exact absurd this.2 hz
      ·exact this
   exact this S1.bx
  have hfar:∀ j b,getB (iO_ S1.bx pn.Z) j=some b→getB S1.bx j=some b∧∀ p∈cbi,ρ p.1≠j:=fun j b h=>by
   obtain⟨h1,h2⟩:=hkeep j b h
   refine⟨h1,fun p hp e=>?_⟩
   have:=hZ ⟨ch,hch⟩ p hp
   rw[e,h2] at this;cases this
  refine⟨⟨fun j b h=>?_,fun j b n h hn=>?_,fun i j b c n h1 h2 hi hj=>?_,hm.im,fun n h=>?_,hr.mem.kept.trans hk,fun n hn hF=>?_,Nat.le_trans hr.mem.sz hm.sz,hm.os.trans hr.mem.os,hm.tape.trans hr.mem.tape,hm.out.trans hr.mem.out,Nat.le_trans hr.mem.dr hm.dr,hr.mem.gl⟩,hr.dn.pan,fun p hpz=>?_⟩
  ·obtain⟨h1,h2⟩:=hfar j b h
   have hb:=hr.mem.bxs j b h1
   exact hb.mono hk (fun _ _=>rfl) fun n hn=>hm.fr n (hb.lt hn) (hout j b n h1 h2 hn)
  ·obtain⟨h1,h2⟩:=hfar j b h
   refine⟨fun hI=>?_,(hr.mem.sep j b n h1 hn).2⟩
   rcases hm.inew n hI with h3|h3|h3
   ·exact (hr.mem.sep j b n h1 hn).1 h3
   ·exact hout j b n h1 h2 hn h3
   ·have:=(hr.mem.bxs j b h1).lt hn;omega
  ·exact hr.mem.inj i j b c n (hfar i b h1).1 (hfar j c h2).1 hi hj
  ·rcases hm.inew n h with h3|h3|h3
   ·exact hr.mem.inew n h3
   ·exact .inr (hFc n h3)
   ·exact .inr (.inr (Nat.le_trans hr.mem.sz h3))
  ·rw[hm.fr n (Nat.lt_of_lt_of_le hn hr.mem.sz) (fun h3=>by rcases hFc n h3 with h4|h4;exact hF h4;omega),hr.mem.fr n hn hF]
  ·have:=hr.ev (.tmp p.1)
   simp only[St.ev] at this
   rw[hs.2.1 p hpz,hzs ⟨ch,hch⟩ p hpz] at this
   exact DenA.mono hk _ _ (fun _ _=>rfl) this
 | returned v =>
  obtain⟨I',β',hm,hres,hfx⟩:=he
  obtain⟨β2,h2⟩:=hr.called (hok.same hs.2.2) hfresh hm hres hfx o.dst
  exact hn I' β2 _ w' h2
theorem dH_ {P:Program} {ds:Dn} {pn:Pn} {o:Oper} {S:St} {fx:Operand} {args:Array Operand} {ts:Array TypeId} (ho:o.op=.call ⟨.value fx,args,ts⟩) {f:FuncId} {first caps:List AV}
  (hf:qL_ (S.ev fx)=some (f,first,caps)) (hb:Body P f) {cargs:List D} {cres:D} (hc:Fun P f (cargs.map .d) [] (.d cres) [] fun _=>False)
  (hargs:LeqL (first++args.toList.map S.ev++caps) (cargs.map .d)):LCore P ds pn o S ⟨.d cres,[],[],[]⟩ []:=by
 have hr:∀ l:List D,renL id (l.map .d)=l.map .d:=fun l=>by induction l with|nil=>rfl|cons c cs ih=>simp[renL,ren,ih]
 have:=LCore.call (ds:=ds) (pn:=pn) ho hf hb hc id (by rw[hr];exact hargs) ⟨by simp,by simp,by simp,fun k j _ _ h=>h,by simp[a7_]⟩ (fun _ h=>h.elim) (fun ⟨_,h⟩=>h.elim) (fun ⟨_,h⟩=>h.elim)
 exact this
end Go.Xe
namespace Go.Xe
open Go.RowKit
variable [Glob]
def r1 (i j k:Nat):Nat:=if k=i then j else k
def ir_ (i j:Nat):Bxs→Bxs
 | []=>[]
 | (k,b)::r=>(r1 i j k,b.ren (r1 i j))::ir_ i j r
theorem kf_ {i j:Nat} (hne:i≠j):∀ {bx:Bxs} (_:∀ k b,getB bx k=some b→k≠j) (k:Nat),getB (ir_ i j bx) k=(if k=j then getB bx i else if k=i then none else getB bx k).map (Box.ren (r1 i j))
 | [],_,k=>by simp[ir_,getB]
 | (k',b)::r,h,k=>by
  have hk':k'≠j:=h k' b (by simp[getB])
  have hr:∀ q c,getB r q=some c→q≠j:=fun q c hq e=>by
   by_cases hqk:k'=q
   ·exact hk' (hqk.trans e)
   ·exact h q c (by simp[getB,hqk,hq]) e
  simp only[ir_,getB,kf_ hne hr k,r1]
  by_cases h1:k'=i
  ·subst h1
   by_cases h2:k=j
   ·subst h2;simp
   ·by_cases h3:k=k'
    ·subst h3;simp[Ne.symm hne,h2]
    ·simp[h2,h3,Ne.symm h2,Ne.symm h3]
  ·by_cases h2:k=j
   ·subst h2;simp[h1,hk']
   ·by_cases h3:k=i
    ·subst h3;simp[h1,h2]
    ·simp only[h1,h2,h3,if_false];split<;>rfl
theorem lT_ {w:World} {I:Nat→Prop} {β:Nat→Value} {i j:Nat} {l:List AV} {vs:List Value} (hj:am_ j l=false) (h:DenAs w I β l vs):DenAs w I (upd β j (β i)) (renL (r1 i j) l) vs:=by
 rw[aP_]
 refine DenAs.mono (Kept.refl w I) l vs (fun k hk=>?_) h
 by_cases e:k=i
 ·subst e;simp[r1,upd]
 ·simp only[r1,if_neg e];exact upd_other _ _ fun e=>by subst e;rw[hj] at hk;cases hk
theorem aI_ (i j:Nat) {S:St} (hne:i≠j) (hj:S.has j=false):Wk S ⟨renL (r1 i j) S.sl,ir_ i j S.bx,S.df⟩:=fun ds w0 I0 F I β a w hr=>by
 obtain⟨hs,hb⟩:=aK_ hj
 obtain⟨hb1,hb2⟩:=hasB_get hb
 have hnj:∀ k b,getB S.bx k=some b→k≠j:=fun k b h e=>by rw[e,hb1] at h;cases h
 have hlt:=ck_ hj
 have hg:∀ k b',getB (ir_ i j S.bx) k=some b'→∃ k0 b,getB S.bx k0=some b∧b'=b.ren (r1 i j)∧upd β j (β i) k=β k0∧k=r1 i j k0:=fun k b' h=>by
  rw[kf_ hne hnj] at h
  by_cases h2:k=j
  ·subst h2
   rw[if_pos rfl] at h
   cases hb:getB S.bx i with
   | none=>rw[hb] at h;cases h
   | some b=>rw[hb] at h;cases h;exact⟨i,b,hb,rfl,upd_same _ _ _,by simp[r1]⟩
  ·rw[if_neg h2] at h
   by_cases h3:k=i
   ·rw[if_pos h3] at h;cases h
   ·rw[if_neg h3] at h
    cases hb:getB S.bx k with
    | none=>rw[hb] at h;cases h
    | some b=>rw[hb] at h;cases h;exact⟨k,b,hb,rfl,upd_other _ _ h2,by simp[r1,h3]⟩
 refine⟨I,upd β j (β i),⟨fun k b' h=>?_,fun k b' n h hn=>?_,fun k q b' c' n h1 h2 hk hq=>?_,hr.mem.im,hr.mem.inew,hr.mem.kept,hr.mem.fr,hr.mem.sz,hr.mem.os,hr.mem.tape,hr.mem.out,hr.mem.dr,hr.mem.gl⟩,lT_ hs hr.sl,hr.dn,fun k hk=>?_⟩
 ·obtain⟨k0,b,e1,rfl,e3,_⟩:=hg k b' h
  rw[e3]
  have:=hr.mem.bxs k0 b e1
  have hh:=hb2 k0 b e1
  cases b with
  | cells T cs=>obtain⟨g,vs,e,hg,hd,ho⟩:=this;exact⟨g,vs,e,hg,lT_ hh hd,ho⟩
  | row T sz n cs=>obtain⟨vs,e,hd,ho⟩:=this;exact⟨vs,e,lT_ hh hd,ho⟩
  | obj g o=>exact this
  | mp kvs=>exact this
  | opq p=>exact this
 ·obtain⟨k0,b,e1,rfl,e3,_⟩:=hg k b' h
  rw[e3] at hn
  exact hr.mem.sep k0 b n e1 hn
 ·obtain⟨k0,b,e1,rfl,e3,e4⟩:=hg k b' h1
  obtain⟨q0,c,f1,rfl,f3,f4⟩:=hg q c' h2
  rw[e3] at hk
  rw[f3] at hq
  rw[e4,f4,hr.mem.inj k0 q0 b c n e1 f1 hk hq]
 ·rw[upd_other _ _ (by omega)];exact hr.fx k hk
abbrev Fn0 (P:Program) (f:FuncId) (cargs:List D) (cres:D):Prop:=Fun P f (cargs.map .d) [] (.d cres) [] fun _=>False
theorem aa_ {P:Program} {ds:Dn} {pn:Pn} {o:Oper} {S:St} {acc:List TI} {rest:St→List TI→Prop} {fx:Operand} {args:Array Operand} {ts:Array TypeId} {f:FuncId} {first caps:List AV} {cargs:List D} {cres:D}
  (hb:Body P f) (hc:Fn0 P f cargs cres) (ho:o.op=.call ⟨.value fx,args,ts⟩) (hf:qL_ (S.ev fx)=some (f,first,caps))
  (hargs:(first++args.toList.map S.ev++caps).map norm=cargs.map .d) (h:rest (S.put o.dst (.d cres)) (⟨⟨.d cres,[],[],[]⟩,[]⟩::acc)):vcStop P ds pn o rest S acc :=
 ⟨_,_,dH_ ho hf hb hc (by have:=hZ_ (first++args.toList.map S.ev++caps);rwa[hargs] at this),trivial,h⟩
theorem ae_ {P:Program} {ds:Dn} {pn:Pn} {o:Oper} {g:Bool} {S:St} {acc:List TI} {rest:St→List TI→Prop} {fx:Operand} {args:Array Operand} {ts:Array TypeId} {f:FuncId} {first caps:List AV} {cargs:List D} {cres:D}
  (hb:Body P f) (hc:g=true→Fn0 P f cargs cres) (ho:o.op=.call ⟨.value fx,args,ts⟩) (hf:g=true→qL_ ((S.under g).ev fx)=some (f,first,caps))
  (hargs:g=true→(first++args.toList.map (S.under g).ev++caps).map norm=cargs.map .d) (h:rest (S.put o.dst (.when g (.d cres))) (⟨⟨.when g (.d cres),[],[],[]⟩,[]⟩::acc)):vcStopG P ds pn o rest g S acc :=
 ⟨_,_,fun hg=>dH_ ho (hf hg) hb (hc hg) (by have:=hZ_ (first++args.toList.map (S.under g).ev++caps);rwa[hargs hg] at this),h⟩
theorem vcStop.call {P:Program} {ds:Dn} {pn:Pn} {o:Oper} {S:St} {acc:List TI} {rest:St→List TI→Prop} {fx:Operand} {args:Array Operand} {ts:Array TypeId} {f:FuncId} {first caps:List AV} {cargs:List AV} {cbi:Bxs} {cres:AV} {cbo:Bxs} {ok:List PanicEntry→Prop}
  (hb:Body P f) (hc:Fun P f cargs cbi cres cbo ok) (ρ:Nat→Nat) (ho:o.op=.call ⟨.value fx,args,ts⟩) (hf:qL_ (S.ev fx)=some (f,first,caps))
  (hargs:LeqL (first++args.toList.map S.ev++caps) (renL ρ cargs)) (hok:CallOk S ρ cbi cbo cres)
  (hpn:∀ ch,ok ch→pn.ok ch) (hzs:(∃ ch,ok ch)→∀ p∈pn.zs,S.at p.1=p.2) (hZ:(∃ ch,ok ch)→∀ p∈cbi,pn.Z.contains (ρ p.1)=false)
  (hfr:bY_ S (cB_ ρ cbi cbo)) (h:rest (S.app o.dst (callE ρ cbi cbo cres)) (⟨callE ρ cbi cbo cres,cbi.map fun p=>ρ p.1⟩::acc)):vcStop P ds pn o rest S acc :=
 ⟨_,_,LCore.call ho hf hb hc ρ hargs hok hpn hzs hZ,hfr,h⟩
def rl:List (Nat×Nat)→Nat→Nat
 | [],k=>k
 | (i,j)::r,k=>if k=i then j else rl r k
def tagsIn (bo:Bxs):List Nat→Bool
 | []=>true
 | t::r=>isIn bo t&&tagsIn bo r
theorem ie_ {bo:Bxs}:∀ {l:List Nat},tagsIn bo l=true→∀ t∈l,isIn bo t=true
 | t::r,h,u,hu=>by
  simp only[tagsIn,Bool.and_eq_true] at h
  rcases List.mem_cons.1 hu with rfl|hu
  ·exact h.1
  ·exact ie_ h.2 u hu
def if_ (bo:Bxs):Bxs→Bool
 | []=>true
 | (_,b)::r=>tagsIn bo (aC_ b.cs)&&if_ bo r
def BE_ (ρ:Nat→Nat):List Nat→Bool
 | []=>true
 | k::r=>(r.all fun j=>k == j || !(ρ k == ρ j))&&BE_ ρ r
theorem ua_ {ρ:Nat→Nat}:∀ {l:List Nat},BE_ ρ l=true→∀ k∈l,∀ j∈l,ρ k=ρ j→k=j
 | a::r,h,k,hk,j,hj,e=>by
  simp only[BE_,Bool.and_eq_true,List.all_eq_true,Bool.or_eq_true,beq_iff_eq,Bool.not_eq_true'] at h
  rcases List.mem_cons.1 hk with e1|hk2<;>rcases List.mem_cons.1 hj with e2|hj2
  ·exact e1.trans e2.symm
  ·subst e1
   rcases h.1 j hj2 with h|h
   ·exact h
   ·rw[e] at h;simp at h
  ·subst e2
   rcases h.1 k hk2 with h|h
   ·exact h.symm
   ·rw[e] at h;simp at h
  ·exact ua_ h.2 k hk2 j hj2 e
def ndB:List Nat→Bool
 | []=>true
 | k::r => !(r.contains k)&&ndB r
def lH_ (S:St) (ρ:Nat→Nat):Bxs→Prop
 | []=>True
 | (k,b)::r=>(1000≤k∧∃ c,getB S.bx (ρ k)=some c∧BoxLeq c (b.ren ρ))∧lH_ S ρ r
theorem h1_ {bx:Bxs} {k:Nat} (h:isIn bx k=true):k∈bx.map (·.1):=by
 cases hg:getB bx k with
 | none=>simp[isIn,hg] at h
 | some b=>exact List.mem_map.2 ⟨_,aE_ hg,rfl⟩
theorem e7_ {S:St} {ρ:Nat→Nat}:∀ {l:Bxs},lH_ S ρ l→∀ p∈l,1000≤p.1∧∃ c,getB S.bx (ρ p.1)=some c∧BoxLeq c (p.2.ren ρ)
 | (k,b)::r,h,p,hp=>by
  rcases List.mem_cons.1 hp with rfl|hp
  ·exact h.1
  ·exact e7_ h.2 p hp
theorem uh_:∀ {bx:Bxs},ndB (bx.map (·.1))=true→∀ p∈bx,getB bx p.1=some p.2
 | (k,b)::r,h,p,hp=>by
  simp only[List.map_cons,ndB,Bool.and_eq_true,Bool.not_eq_true',List.contains_eq_mem,decide_eq_false_iff_not] at h
  rcases List.mem_cons.1 hp with rfl|hp
  ·simp[getB]
  ·have:k≠p.1:=fun e=>h.1 (by rw[e];exact List.mem_map.2 ⟨p,hp,rfl⟩)
   simp only[getB,if_neg this]
   exact uh_ h.2 p hp
theorem ag_ {S:St} {ρ:Nat→Nat} {cbi cbo:Bxs} {cres:AV} (h1:lH_ S ρ cbi) (h2:ndB (cbo.map (·.1))=true) (h3:BE_ ρ (cbi.map (·.1)++cbo.map (·.1))=true) (h4:tagsIn cbo (a7_ cres)=true) (h5:if_ cbo cbo=true):CallOk S ρ cbi cbo cres:=by
 refine⟨fun p hp=>(e7_ h1 p hp).1,fun p hp=>(e7_ h1 p hp).2,uh_ h2,fun k j hk hj e=>?_,fun t ht=>?_⟩
 ·refine ua_ h3 k ?_ j ?_ e
  ·rcases hk with h|h
   ·exact List.mem_append_left _ (h1_ h)
   ·exact List.mem_append_right _ (h1_ h)
  ·rcases hj with h|h
   ·exact List.mem_append_left _ (h1_ h)
   ·exact List.mem_append_right _ (h1_ h)
 ·rcases ht with h|⟨p,hp,h⟩
  ·exact ie_ h4 t h
  ·have:∀ (l:Bxs),if_ cbo l=true→∀ p∈l,∀ t∈aC_ p.2.cs,isIn cbo t=true:=by
    intro l
    induction l with
    | nil=>intro _ p hp;cases hp
    | cons q r ih =>
     intro h p hp t ht
     simp only[if_,Bool.and_eq_true] at h
     rcases List.mem_cons.1 hp with rfl|hp
     ·exact ie_ h.1 t ht
     ·exact ih h.2 p hp t ht
   exact this cbo h5 p hp t h
theorem aGq {S:St} {ρ:Nat→Nat} {cbi cbo:Bxs} {cres:AV} (h1:lH_ S ρ cbi:=by simp[BoxLeq]) (h2:ndB (cbo.map (·.1))=true:=by rfl) (h3:BE_ ρ (cbi.map (·.1)++cbo.map (·.1))=true:=by first|rfl|(simp[BoxLeq];done)) (h4:tagsIn cbo (a7_ cres)=true:=by simp[BoxLeq]) (h5:if_ cbo cbo=true:=by simp[BoxLeq]):CallOk S ρ cbi cbo cres:=ag_ h1 h2 h3 h4 h5
theorem sJ_ (l:List D):aC_ (l.map .d)=[]:=by
 induction l with
 | nil=>rfl
 | cons c cs ih=>simp[aC_,a7_,ih]
theorem gP_:∀ (a b:List AV),aC_ (a++b)=aC_ a++aC_ b
 | [],_=>rfl
 | x::a,b=>by simp[aC_,gP_ a b]
theorem xx_ (ρ:Nat→Nat) (l:List D):renL ρ (l.map .d)=l.map .d:=by induction l with|nil=>rfl|cons c cs ih=>simp[renL,ren,ih]
theorem iq_ (ρ:Nat→Nat):∀ (a b:List AV),renL ρ (a++b)=renL ρ a++renL ρ b
 | [],_=>rfl
 | x::a,b=>by simp[renL,iq_ ρ a b]
def finD (τ:Tab) (rs:List ResultVar) (res:AV) (bo:Bxs) (S:St):Prop :=
 match jE_ τ S rs with
 | some (side,l)=>side∧Leq (rR_ l) res∧∀ k b,getB bo k=some b→getB S.bx k=some b
 | none=>False
theorem finD.fin {τ:Tab} {rs:List ResultVar} {res:AV} {bo:Bxs} {S:St} (h:finD τ rs res bo S):r6_ τ rs res bo S:=by
 unfold finD at h
 split at h
 ·rename_i h1;exact⟨_,_,h1,h.1,h.2.1,h.2.2⟩
 ·exact h.elim
theorem finQ.ret {τ:Tab} {rs:List ResultVar} {res:AV} {bo:Bxs} {S:St} (h:finD τ rs res bo S):finQ τ rs res bo .ret S:=⟨S,.refl S,h.fin⟩
theorem aW_ {τ:Tab} {rs:List ResultVar} {res:AV} {bo:Bxs} {S S':St} (hw:Wk S S') (h:finD τ rs res bo S'):finQ τ rs res bo .ret S:=⟨S',hw,h.fin⟩
theorem finQ.normal {τ:Tab} {rs:List ResultVar} {res:AV} {bo:Bxs} {S:St} (h:finD τ rs res bo S):finQ τ rs res bo .normal S:=⟨S,.refl S,h.fin⟩
theorem mZ_ {τ:Tab} {rs:List ResultVar} {res:AV} {bo:Bxs} {S S':St} (hw:Wk S S') (h:finD τ rs res bo S'):finQ τ rs res bo .normal S:=⟨S',hw,h.fin⟩
def fY_:Bxs→List Nat→Bxs
 | [],_=>[]
 | (k,b)::r,Z=>if Z.contains k then fY_ r Z else (k,b)::fY_ r Z
theorem getB_delsF {Z:List Nat}:∀ {bx:Bxs} {k:Nat} {b:Box},getB (fY_ bx Z) k=some b→getB bx k=some b
 | (j,c)::r,k,b,h=>by
  simp only[fY_] at h
  split at h
  ·rename_i hz
   by_cases e:j=k
   ·subst e
    exfalso
    have:∀ (l:Bxs),getB (fY_ l Z) j≠some b:=by
     intro l
     induction l with
     | nil=>intro h;cases h
     | cons q l ih =>
      obtain⟨i,d⟩:=q
      simp only[fY_]
      split
      ·exact ih
      ·rename_i hz2
       simp only[getB]
       split
       ·rename_i e;subst e;exact absurd hz hz2
       ·exact ih
    exact this r h
   ·simp only[getB,if_neg e];exact getB_delsF h
  ·simp only[getB] at h ⊢
   split at h
   ·rename_i e;rw[if_pos e];exact h
   ·rename_i e;rw[if_neg e];exact getB_delsF h
def iI_:List AV→List AV→List AV
 | x::xs,.d .any::ys=>.d .any::iI_ xs ys
 | x::xs,y::ys=>x::iI_ xs ys
 | l,_=>l
theorem maskL_ok:∀ (l m:List AV),LeqL l (iI_ l m)
 | [],[]=>trivial
 | [],_::_=>trivial
 | x::xs,[]=>.refl _
 | x::xs,y::ys=>by
  unfold iI_
  split
  ·rename_i h1 h2;cases h1;cases h2;exact⟨.any _,maskL_ok _ _⟩
  ·rename_i h1 h2;cases h1;cases h2;exact⟨.refl _,maskL_ok _ _⟩
  ·exact .refl _
def oH_ (bx:Bxs):Bxs→Prop
 | []=>True
 | (k,b)::r=>getB bx k=some b∧oH_ bx r
theorem subB_ok {bx:Bxs}:∀ {l:Bxs},oH_ bx l→∀ k b,getB l k=some b→getB bx k=some b
 | (j,c)::r,h,k,b,hk=>by
  simp only[getB] at hk
  split at hk
  ·rename_i e;subst e;cases hk;exact h.1
  ·exact subB_ok h.2 k b hk
theorem Wk.go (Z:List Nat) (i j:Nat) {S S':St} (hne:i≠j) (hj:(St.mk (iI_ S.sl S'.sl) (fY_ S.bx Z) S.df).has j=false) (hs:LeqL (renL (r1 i j) (iI_ S.sl S'.sl)) S'.sl) (hb:oH_ (ir_ i j (fY_ S.bx Z)) S'.bx) (hdf:S'.df=S.df:=by rfl):Wk S S':=by
 have h1:Wk S ⟨iI_ S.sl S'.sl,fY_ S.bx Z,S.df⟩:=eb_ (maskL_ok _ _) fun _ _ h=>getB_delsF h
 refine h1.trans ((aI_ i j hne hj).trans (eb_ hs (fun k b h=>?_) hdf))
 exact subB_ok hb k b h
theorem af_ (Z:List Nat) {S S':St} (hs:LeqL S.sl S'.sl) (hb:oH_ (fY_ S.bx Z) S'.bx) (hdf:S'.df=S.df:=by rfl):Wk S S':=eb_ hs (fun _ _ h=>getB_delsF (subB_ok hb _ _ h)) hdf
@[simp] theorem Dn_ {x y:AV} {xs ys:List AV}:LeqL (x::xs) (y::ys)↔Leq x y∧LeqL xs ys:=.rfl
@[simp] theorem Fz_ (x:AV):Leq x (.d .any)↔True:=⟨fun _=>trivial,fun _=>.any x⟩
@[simp] theorem En_:LeqL [] []↔True:=.rfl
@[simp] theorem FT_ (sz:Nat) (cs:List D) (n:Nat) (f:Bool):Leq (.d (.sl sz cs n f)) (.d (.sl sz cs n false))↔True:=⟨fun _=>trivial,fun _=>.sl _ _ _ _⟩
@[simp] theorem xK_ {k:Nat} {b:Box} {bx:Bxs}:(getB [] k=some b→getB bx k=some b)↔True:=by simp[getB]
@[simp] theorem Fm_ (a b:Nat):Nat.ble a b=decide (a≤b):=by
 by_cases h:a≤b
 ·rw[Nat.ble_eq_true_of_le h];simp[h]
 ·cases hh:Nat.ble a b with
  | true=>exact absurd (Nat.le_of_ble_eq_true hh) h
  | false=>simp[h]
theorem WP.len {P:Program} {ds:Dn} {pn:Pn} {c:Code} {Q:Exit→St→Prop} {S:St} (x:Operand) {sz:Nat} {cs:List D} {n:Nat} {f:Bool} (hx:S.ev x=.d (.sl sz cs n f)) (h:n≤maxLen→WP P ds pn c Q S):WP P ds pn c Q S:=fun w0 I0 F I β a w hr=>by
 have hv:=hr.ev x
 rw[hx,DenA,Den] at hv
 obtain⟨a',cap,_,h1,h2,_⟩:=hv
 exact h (Nat.le_trans h1 h2) w0 I0 F I β a w hr
theorem vcStopG.skip (v:AV) {P:Program} {ds:Dn} {pn:Pn} {o:Oper} {S:St} {acc:List TI} {rest:St→List TI→Prop} (h:rest (S.put o.dst (.when false v)) (⟨⟨.when false v,[],[],[]⟩,[]⟩::acc)):vcStopG P ds pn o rest false S acc :=
 ⟨v,[],fun hg=>absurd hg Bool.false_ne_true,h⟩
def mkS (n:Nat) (l:List (Nat×AV)) (bx:Bxs) (df:List Nat:=[]):St:=⟨l.foldl (fun s p=>s.set p.1 p.2) (List.replicate n (.d .any)),bx,df⟩
def atL:List AV→Nat→AV
 | [],_=>.d .any
 | x::_,0=>x
 | _::l,n+1=>atL l n
theorem df_:∀ (l:List AV) (j:Nat),(l[j]?).getD (.d .any)=atL l j
 | [],j=>by simp[atL]
 | x::l,0=>by simp[atL]
 | x::l,n+1=>by rw[atL,← df_ l n];simp
@[simp] theorem Ei_ (S:St) (t:Nat):S.at t=atL S.sl t:=df_ _ _
@[simp] theorem DC_ (e:TE) (off:Nat) (cs:List AV):gk_ e off cs=match e.k.agg with|true=>.agg ((cs.drop off).take e.size)|false=>atL cs off:=by
 rw[← df_];rfl
@[simp] theorem Ak_ {W:St→St→Prop} {Inv:Nat→St→Prop} {n:Nat} {Q:Exit→St→Prop} {id:Nat} {S:St}:loopW W Inv n Q (.exit id) S=Q (.exit id) S:=rfl
@[simp] theorem BB_ {W:St→St→Prop} {Inv:Nat→St→Prop} {n:Nat} {Q:Exit→St→Prop} {S:St}:loopW W Inv n Q .ret S=Q .ret S:=rfl
theorem loopW.next {Inv:Nat→St→Prop} {n:Nat} {Q:Exit→St→Prop} {S:St} (S':St) (h:Wk S S') (m:Nat) (hm:m<n) (hi:Inv m S'):loopW Wk Inv n Q .normal S:=⟨S',h,m,hm,hi⟩
attribute [simp] Fi_ lk_ v9_ orE TK.isI pq_ hW_ Value.oneCell' vcOps vc1 vcG vcB bY_ okV qt_ pickA k9_ wa_ AV.cells oneD oneA
 zh_ qu_ o2_ atL gL TK.agg sM_ k3_ setL dn_ DG_ v6_ binI binS z3_ wb_ unV DE_ qv_ fJ_ e6_ eB_ dr_ up_ k7_
 sw_ idxA v8_ E3_ k5_ f5_ sO_ k4_ rm_ zM_ qw_ E0_ v7_ mmA Bf_ DN_ hX_ fK_ TI.ts wf_ d8_ fG_ bz_ k8_ cN_ k6_
 St.ev St.put St.app St.under unw lo_ wantB getB delB setB eA_ dv_ dz_ St.has AV.has am_ Box.cs
 jE_ rR_ Dx_ DR_ dU_ opA gx_ frz lq_ DH_ finD norm toD vG_ ren renL Box.ren rl tagsIn if_ isIn a7_ aC_ BE_ ndB lH_ cB_ eO_ callE
 sJ_ gP_ xx_ iq_ r1 ir_ fY_ oH_ iI_ mkS List.replicate Leq.refl LeqL.refl BoxLeq.refl hasL_append hasL_d qL_
@[simp] theorem DQ_ (p:Bool):f0_ (.d (.v (.bool p)))=some (p,true):=rfl
@[simp] theorem z0_ (b p:Bool):f0_ (.when b (.d (.v (.bool p))))=some (p,b):=rfl
@[simp] theorem Al_ (c:Prop) [Decidable c] (p b:Bool):f0_ (if c then .d (.v (.bool p)) else .when b (.d (.v (.bool p))))=some (p,if c then true else b):=by split<;>rfl
end Go.Xe
namespace Go.Xe
open Go.RowKit
variable [Glob]
theorem Blk.nil {m c n:Nat}:¬ Blk (.slice none m c) n:=Blk.no rfl (fun _ e=>by cases e)
theorem gN_ {P:Program} {f:FuncId} {rest:List AV} {bi:Bxs} {res:AV} {bo:Bxs} {ok:List PanicEntry→Prop} {T:TypeId} {sz:Nat}
  (h:Fun P f (.row 1000::rest) ((1000,.row T sz 0 [])::bi) res bo ok) (h1:am_ 1000 rest=false) (h2:eA_ 1000 bi=false) (h3:eA_ 1000 bo=false) (h4:AV.has 1000 res=false) :
  Fun P f (.d (.v (.slice none 0 0))::rest) bi res bo ok:=by
 intro w I β vs hm hd
 obtain⟨v,vs',rfl,hv,hd'⟩:=hd
 rw[DenA_v] at hv
 subst hv
 obtain⟨h2a,h2b⟩:=hasB_get h2
 obtain⟨h3a,h3b⟩:=hasB_get h3
 have hb:∀ k,k≠1000→upd β 1000 (.slice none 0 0) k=β k:=fun k hk=>upd_other _ _ hk
 have hF:∀ n,Fp ((1000,.row T sz 0 [])::bi) (upd β 1000 (.slice none 0 0)) n→Fp bi β n:=by
  rintro n ⟨k,b,hk,hn⟩
  by_cases e:k=1000
  ·subst e;rw[upd_same] at hn;exact (Blk.nil hn).elim
  ·rw[hb k e] at hn
   simp only[getB,if_neg (Ne.symm e)] at hk
   exact⟨k,b,hk,hn⟩
 have hF':∀ n,Fp bi β n→Fp ((1000,.row T sz 0 [])::bi) (upd β 1000 (.slice none 0 0)) n:=by
  rintro n ⟨k,b,hk,hn⟩
  have e:k≠1000:=fun e=>by subst e;rw[h2a] at hk;cases hk
  exact⟨k,b,by simp only[getB,if_neg (Ne.symm e)];exact hk,by rw[hb k e];exact hn⟩
 have hFe:Fp ((1000,.row T sz 0 [])::bi) (upd β 1000 (.slice none 0 0))=Fp bi β:=funext fun n=>propext ⟨hF n,hF' n⟩
 have hm1:Mem w I (Fp ((1000,.row T sz 0 [])::bi) (upd β 1000 (.slice none 0 0))) ((1000,.row T sz 0 [])::bi) I (upd β 1000 (.slice none 0 0)) w:=by
  rw[hFe]
  refine⟨fun k b hk=>?_,fun k b n hk hn=>?_,fun k j b c n hk hj hkn hjn=>?_,hm.im,hm.inew,hm.kept,hm.fr,hm.sz,hm.os,hm.tape,hm.out,hm.dr,hm.gl⟩
  ·simp only[getB] at hk
   split at hk
   ·rename_i e;subst e;cases hk
    rw[upd_same]
    exact⟨[],World.ownsRow_nil w 0 T sz,rfl,by simp⟩
   ·rename_i e
    rw[hb k (Ne.symm e)]
    refine (hm.bxs k b hk).mono (Kept.refl w I) (fun j hj=>hb j fun e=>?_) (fun _ _=>rfl)
    subst e;rw[h2b k b hk] at hj;cases hj
  ·simp only[getB] at hk
   split at hk
   ·rename_i e;subst e;rw[upd_same] at hn;exact (Blk.nil hn).elim
   ·rename_i e;rw[hb k (Ne.symm e)] at hn;exact hm.sep k b n hk hn
  ·simp only[getB] at hk hj
   split at hk
   ·rename_i e;subst e;rw[upd_same] at hkn;exact (Blk.nil hkn).elim
   ·rename_i e
    rw[hb k (Ne.symm e)] at hkn
    split at hj
    ·rename_i e2;subst e2;rw[upd_same] at hjn;exact (Blk.nil hjn).elim
    ·rename_i e2
     rw[hb j (Ne.symm e2)] at hjn
     exact hm.inj k j b c n hk hj hkn hjn
 have:=h w I (upd β 1000 (.slice none 0 0)) (.slice none 0 0::vs') hm1 ⟨_,_,rfl,by rw[DenA,upd_same];exact⟨rfl,.inl ⟨_,_,_,rfl⟩⟩,DenAs.mono (Kept.refl w I) _ _ (fun k hk=>hb k fun e=>by subst e;rw[h1] at hk;cases hk) hd'⟩
 refine Calls.mono this fun e w' he=>?_
 rw[hFe] at he
 cases e with
 | returned v =>
  obtain⟨I',β',hm',hr,hfx⟩:=he
  have hb':∀ k,k≠1000→upd β' 1000 (β 1000) k=β' k:=fun k hk=>upd_other _ _ hk
  refine⟨I',upd β' 1000 (β 1000),⟨fun k b hk=>?_,fun k b n hk hn=>?_,fun k j b c n hk hj hkn hjn=>?_,hm'.im,hm'.inew,hm'.kept,hm'.fr,hm'.sz,hm'.os,hm'.tape,hm'.out,hm'.dr,hm'.gl⟩,?_,fun k hk=>?_⟩
  ·have e:k≠1000:=fun e=>by subst e;rw[h3a] at hk;cases hk
   rw[hb' k e]
   refine (hm'.bxs k b hk).mono (Kept.refl w' I') (fun j hj=>hb' j fun e=>?_) (fun _ _=>rfl)
   subst e;rw[h3b k b hk] at hj;cases hj
  ·have e:k≠1000:=fun e=>by subst e;rw[h3a] at hk;cases hk
   rw[hb' k e] at hn
   exact hm'.sep k b n hk hn
  ·have e:k≠1000:=fun e=>by subst e;rw[h3a] at hk;cases hk
   have e2:j≠1000:=fun e=>by subst e;rw[h3a] at hj;cases hj
   rw[hb' k e] at hkn
   rw[hb' j e2] at hjn
   exact hm'.inj k j b c n hk hj hkn hjn
  ·exact DenA.mono (Kept.refl w' I') _ _ (fun k hk=>hb' k fun e=>by subst e;rw[h4] at hk;cases hk) hr
  ·by_cases e:k=1000
   ·subst e;exact upd_same _ _ _
   ·rw[hb' k e,hfx k hk,hb k e]
 | panicked ch =>
  obtain⟨h1,I',β',hm'⟩:=he
  exact⟨h1,I',β',hm'⟩
 | outgrown=>exact he
@[simp] theorem Em_ {l:List AV} {ds:List D} (h:LeqL l (ds.map .d)):Leq (.agg l) (.d (.agg ds))↔True:=⟨fun _=>trivial,fun _=>(Leq.agg h).trans (al_ _)⟩
@[simp] theorem Ej_ {l:List AV} {ds:List D} (h:LeqL l (ds.map .d)):Leq (.tup l) (.d (.tup ds))↔True:=⟨fun _=>trivial,fun _=>(Leq.tup h).trans (f2_ _)⟩
@[simp] theorem Fy_ (sz:Nat):Leq (.d (.v (.slice none 0 0))) (.d (.sl sz [] 0 false))↔True:=⟨fun _=>trivial,fun _=>.nil sz⟩
theorem vc_ {P:Program} {ds:Dn} {pn:Pn} {c:Code} {Q:Exit→St→Prop} {S:St} (x:Operand) (j:Nat) {ps:List D} {sz:Nat} {cs:List D} {n:Nat} {f:Bool} (hx:(S.ev x,ps[j]?)=(.d (.agg ps),some (.sl sz cs n f))) (h:n≤maxLen→WP P ds pn c Q S):WP P ds pn c Q S:=fun w0 I0 F I β a w hr=>by
 have hv:=hr.ev x
 obtain⟨h1,h2⟩:=Prod.mk.inj hx
 rw[h1,DenA,Den] at hv
 obtain⟨vs,_,hd⟩:=hv
 have hget:∀ (ps:List D) (vs:List Value) (j:Nat),Dens w I ps vs→ps[j]? = some (.sl sz cs n f)→∃ y,Den w I (.sl sz cs n f) y:=by
  intro ps
  induction ps with
  | nil=>intro vs j _ hj;simp at hj
  | cons p ps ih =>
   intro vs j hd hj
   rw[Dens] at hd
   obtain⟨v,vs',_,hp,hd'⟩:=hd
   cases j with
   | zero=>simp at hj;subst hj;exact⟨v,hp⟩
   | succ j=>exact ih vs' j hd' (by simpa using hj)
 obtain⟨y,hy⟩:=hget ps vs j hd h2
 rw[Den] at hy
 obtain⟨a',cap,_,h3,h4,_⟩:=hy
 exact h (Nat.le_trans h3 h4) w0 I0 F I β a w hr
end Go.Xe
namespace Go.Xe
open Go.RowKit
variable [Glob]
def DP_:D:=.sl 4 [] 1 false
def po_:Box:=.cells 0 [.d DP_]
theorem q3_ {w:World} {I:Nat→Prop} {v:Value}:¬ Den w I DP_ v:=by
 intro h
 rw[DP_,Den] at h
 obtain⟨a,cap,_,_,_,_,h1,_⟩:=h
 simp at h1
theorem a3_ {P:Program} {ds:Dn} {pn:Pn} {c:Code} {Q:Exit→St→Prop} {S:St} (k:Nat) (hb:getB S.bx k=some po_):WP P ds pn c Q S:=fun w0 I0 F I β a w hr=>by
 obtain⟨b,vs,_,_,hd,_⟩:=hr.mem.bxs k _ hb
 obtain⟨v,vs',_,h1,_⟩:=hd
 rw[DenA] at h1
 exact (q3_ h1).elim
theorem xP_ {τ:Tab} {rs:List ResultVar} {res:AV} {bo:Bxs} {e:Exit} {S:St} (k:Nat) (hb:getB S.bx k=some po_) (he:e=.normal∨e=.ret) (S':St) (h:finD τ rs res bo S'):finQ τ rs res bo e S:=by
 have hw:Wk S S':=fun ds w0 I0 F I β a w hr=>by
  obtain⟨b,vs,_,_,hd,_⟩:=hr.mem.bxs k _ hb
  obtain⟨v,vs',_,h1,_⟩:=hd
  rw[DenA] at h1
  exact (q3_ h1).elim
 rcases he with rfl|rfl
 ·exact⟨S',hw,h.fin⟩
 ·exact⟨S',hw,h.fin⟩
theorem LCore.panic {P:Program} {ds:Dn} {pn:Pn} {o:Oper} {S:St} {x:Operand} {t:TypeId} {v:Value} (ho:o.op=.panic x) (hx:S.ev x=.d (.v (.iface t v))) (hok:pn.ok [{ v:=.iface t v,recovered:=false }])
  (hz:∀ p∈pn.zs,S.at p.1=p.2) (e:Eff) (fp:List Nat):LCore P ds pn o S e fp:=by
 intro S1 hs _ w0 I0 F I β a w hr next Q hn hp
 have ex:=hs.1 x (by simp[ho,Op.operands])
 have hv:=hr.ev x
 rw[ex,hx,DenA_v] at hv
 have hrun:(execOp a.eval o).run P w=.halt (.panic (.iface t v)) w:=by
  simp[execOp,ho,hv,run_panic_iface]
 refine⟨fun _ _=>trivial,?_⟩
 rw[Oper.semAt_eq _ _ _ (fun c h=>by rw[ho] at h;cases h),hrun,Oper.uponIn_panic]
 refine hp _ I β w hok ⟨hr.mem.sub fun k b hk=>?_,hr.dn.pan,fun p hpz=>?_⟩
 ·have:∀ (bx:Bxs),getB (iO_ bx pn.Z) k=some b→getB bx k=some b:=by
   intro bx
   induction bx with
   | nil=>intro h;cases h
   | cons q r ih =>
    obtain⟨j,c⟩:=q
    simp only[iO_]
    intro h
    split at h
    ·simp only[getB] at h ⊢
     split at h
     ·rename_i e;rw[if_pos e];exact h
     ·rename_i e;rw[if_neg e];exact ih h
    ·rename_i hz
     have h2:=ih h
     by_cases e:j=k
     ·subst e
      exfalso
      have:∀ (bx:Bxs),getB (iO_ bx pn.Z) j≠some b:=by
       intro bx
       induction bx with
       | nil=>intro h;cases h
       | cons q r ih2 =>
        obtain⟨i,d⟩:=q
        simp only[iO_]
        split
        ·rename_i hz2
         simp only[getB]
         split
         ·rename_i e;subst e;exact absurd hz2 hz
         ·exact ih2
        ·exact ih2
      exact this r h
     ·simp only[getB,if_neg e];exact h2
  exact this _ hk
 ·have:=hr.ev (.tmp p.1)
  simp only[St.ev] at this
  rw[hs.2.1 p hpz,hz p hpz] at this
  exact this
theorem vcStop.panic {P:Program} {ds:Dn} {pn:Pn} {o:Oper} {S:St} {acc:List TI} {rest:St→List TI→Prop} {x:Operand} {t:TypeId} {v:Value} (k:Nat) (ho:o.op=.panic x) (hx:S.ev x=.d (.v (.iface t v)))
  (hok:pn.ok [{ v:=.iface t v,recovered:=false }]) (hz:∀ p∈pn.zs,S.at p.1=p.2) (hk:S.has k=false) (h:rest (S.app o.dst ⟨.d .any,[],[],[(k,po_)]⟩) (⟨⟨.d .any,[],[],[(k,po_)]⟩,[]⟩::acc)):vcStop P ds pn o rest S acc :=
 ⟨⟨.d .any,[],[],[(k,po_)]⟩,[],LCore.panic ho hx hok hz _ _,⟨hk,trivial⟩,h⟩
end Go.Xe
namespace Go.Xe
open Go.RowKit
variable [Glob]
theorem mX_ (w:World) (r:Option Nat):Gb w w r:=⟨⟨rfl,rfl,rfl,Nat.le_refl _,fun _ _ _=>rfl⟩,Nat.le_refl _⟩
theorem set_self {α:Type}:∀ {l:List α} {i:Nat} {x:α},l[i]? = some x→l.set i x=l
 | [],_,_,h=>by simp at h
 | a::l,0,x,h=>by simp at h;subst h;rfl
 | a::l,i+1,x,h=>by simp at h;simp[set_self h]
theorem Mem.addNil {w0:World} {I0 F:Nat→Prop} {bx:Bxs} {I:Nat→Prop} {β:Nat→Value} {w:World} (h:Mem w0 I0 F bx I β w) {k:Nat} (hk:eA_ k bx=false) (T:TypeId) (sz:Nat) :
  Mem w0 I0 F (setB bx k (.row T sz 0 [])) I (upd β k (.slice none 0 0)) w :=
 h.add hk ⟨[],World.ownsRow_nil w 0 T sz,rfl,by simp⟩ (fun n hn=>(Blk.nil hn).elim)
theorem ct_ {S:St} (t k:Nat) (T:TypeId) (sz:Nat) (ht:S.sl[t]? = some (.d (.v (.slice none 0 0)))) (hk:S.has k=false):Wk S ⟨S.sl.set t (.row k),setB S.bx k (.row T sz 0 []),S.df⟩:=fun ds w0 I0 F I β a w hr=>by
 obtain⟨hs,hb⟩:=aK_ hk
 have hlt:=ck_ hk
 refine⟨I,upd β k (.slice none 0 0),hr.mem.addNil hb T sz,?_,hr.dn,fun j hj=>by rw[upd_other _ _ (by omega)];exact hr.fx j hj⟩
 have h1:DenAs w I (upd β k (.slice none 0 0)) S.sl a.tmps.toList:=DenAs.mono (Kept.refl w I) _ _ (fun j hj=>upd_other _ _ fun e=>by subst e;rw[hs] at hj;cases hj) hr.sl
 obtain⟨y,hy,hd⟩:=hr.sl.get ht
 rw[DenA_v] at hd
 subst hd
 have h2:=DenAs.set (x:=.row k) (y:=.slice none 0 0) (w:=w) (I:=I) (β:=upd β k (.slice none 0 0)) (by rw[DenA,upd_same];exact⟨rfl,.inl ⟨_,_,_,rfl⟩⟩) h1 t
 rwa[show a.tmps.toList.set t (.slice none 0 0)=a.tmps.toList from by rw[set_self hy]] at h2
theorem bf_ {S:St} (j i k:Nat) (T:TypeId) (sz:Nat) {T':TypeId} {cs:List AV} (hj:getB S.bx j=some (.cells T' cs)) (hi:cs[i]? = some (.d (.v (.slice none 0 0)))) (hk:S.has k=false) :
  Wk S ⟨S.sl,setB (setB S.bx k (.row T sz 0 [])) j (.cells T' (cs.set i (.row k))),S.df⟩:=fun ds w0 I0 F I β a w hr=>by
 obtain⟨hs,hb⟩:=aK_ hk
 have hlt:=ck_ hk
 obtain⟨hb1,hb2⟩:=hasB_get hb
 have hjk:k≠j:=fun e=>by subst e;rw[hb1] at hj;cases hj
 obtain⟨b,vs,he,hh,hd,ho⟩:=hr.mem.bxs j _ hj
 have hm:=hr.mem.addNil hb T sz
 have hj':getB (setB S.bx k (.row T sz 0 [])) j=some (.cells T' cs):=by rw[br_,if_neg hjk];exact hj
 have h1:DenAs w I (upd β k (.slice none 0 0)) cs vs:=DenAs.mono (Kept.refl w I) _ _ (fun q hq=>upd_other _ _ fun e=>by subst e;have:=hb2 j _ hj;simp only[Box.cs] at this;rw[this] at hq;cases hq) hd
 obtain⟨y,hy,hdy⟩:=hd.get hi
 rw[DenA_v] at hdy
 subst hdy
 have h2:=DenAs.set (x:=.row k) (y:=.slice none 0 0) (w:=w) (I:=I) (β:=upd β k (.slice none 0 0)) (by rw[DenA,upd_same];exact⟨rfl,.inl ⟨_,_,_,rfl⟩⟩) h1 i
 rw[set_self hy] at h2
 refine⟨I,upd β k (.slice none 0 0),hm.turn hj' (mX_ w _) ?_,?_,hr.dn,fun q hq=>by rw[upd_other _ _ (by omega)];exact hr.fx q hq⟩
 ·rw[upd_other _ _ (Ne.symm hjk)];exact⟨b,vs,he,hh,h2,ho⟩
 ·exact DenAs.mono (Kept.refl w I) _ _ (fun q hq=>upd_other _ _ fun e=>by subst e;rw[hs] at hq;cases hq) hr.sl
def finE (τ:Tab) (rs:List ResultVar) (res:AV) (bo:Bxs) (S:St):Prop :=
 match jE_ τ S rs with
 | some (side,l)=>side∧Leq (rR_ l) res∧oH_ S.bx bo
 | none=>False
theorem finE.fin {τ:Tab} {rs:List ResultVar} {res:AV} {bo:Bxs} {S:St} (h:finE τ rs res bo S):finD τ rs res bo S:=by
 unfold finE at h
 unfold finD
 split at h
 ·rename_i h1;first|(rw[h1];exact⟨h.1,h.2.1,subB_ok h.2.2⟩)|exact⟨h.1,h.2.1,subB_ok h.2.2⟩
 ·exact h.elim
theorem ab_ {τ:Tab} {rs:List ResultVar} {res:AV} {bo:Bxs} {S:St} (h:finE τ rs res bo S):finQ τ rs res bo .ret S:=finQ.ret h.fin
theorem aj_ {τ:Tab} {rs:List ResultVar} {res:AV} {bo:Bxs} {S S':St} (hw:Wk S S') (h:finE τ rs res bo S'):finQ τ rs res bo .ret S:=aW_ hw h.fin
theorem cO_ {τ:Tab} {rs:List ResultVar} {res:AV} {bo:Bxs} {S:St} (h:finE τ rs res bo S):finQ τ rs res bo .normal S:=finQ.normal h.fin
theorem ls_ {τ:Tab} {rs:List ResultVar} {res:AV} {bo:Bxs} {S S':St} (hw:Wk S S') (h:finE τ rs res bo S'):finQ τ rs res bo .normal S:=mZ_ hw h.fin
attribute [simp] finE
end Go.Xe
namespace Go.Xe
open Go.RowKit
variable [Glob]
theorem Mem.start {w0:World} {I0 F:Nat→Prop} {bx cb:Bxs} {I:Nat→Prop} {β:Nat→Value} {w:World} (h:Mem w0 I0 F bx I β w) (hcb:∀ k b,getB cb k=some b→getB bx k=some b):Mem w I (Fp cb β) cb I β w :=
 ⟨fun k b hk=>h.bxs k b (hcb k b hk),fun k b n hk hn=>⟨(h.sep k b n (hcb k b hk) hn).1,.inl ⟨k,b,hk,hn⟩⟩,fun k j b c n h1 h2=>h.inj k j b c n (hcb k b h1) (hcb j c h2),h.im,
  fun _ h=>.inl h,.refl w I,fun _ _ _=>rfl,Nat.le_refl _,rfl,rfl,rfl,Nat.le_refl _,h.glNow⟩
theorem Mem.keep {w0:World} {I0 F:Nat→Prop} {bx cb bk:Bxs} {I I':Nat→Prop} {β β':Nat→Value} {w w':World} (h:Mem w0 I0 F bx I β w) (hcb:∀ k b,getB cb k=some b→getB bx k=some b)
  (h2:Mem w I (Fp cb β) [] I' β' w') (hbk:∀ k b,getB bk k=some b→getB bx k=some b∧getB cb k=none):Mem w0 I0 F bk I' β w':=by
 have hFc:∀ n,Fp cb β n→F n∨w0.heap.size≤n:=fun n ⟨k,b,hk,hn⟩=>(h.sep k b n (hcb k b hk) hn).2
 have hout:∀ j b n,getB bk j=some b→Blk (β j) n→¬ Fp cb β n:=fun j b n hj hn ⟨k,c,hk,hkn⟩=>by
  have:=h.inj k j c b n (hcb k c hk) (hbk j b hj).1 hkn hn
  subst this
  rw[(hbk k b hj).2] at hk;cases hk
 refine⟨fun j b hj=>?_,fun j b n hj hn=>?_,fun i j b c n h1 h3=>h.inj i j b c n (hbk i b h1).1 (hbk j c h3).1,h2.im,fun n hn=>?_,h.kept.trans h2.kept,fun n hn hF=>?_,Nat.le_trans h.sz h2.sz,h2.os.trans h.os,h2.tape.trans h.tape,h2.out.trans h.out,Nat.le_trans h.dr h2.dr,h.gl⟩
 ·have hb:=h.bxs j b (hbk j b hj).1
  exact hb.mono h2.kept (fun _ _=>rfl) fun n hn=>h2.fr n (hb.lt hn) (hout j b n hj hn)
 ·refine⟨fun hI=>?_,(h.sep j b n (hbk j b hj).1 hn).2⟩
  rcases h2.inew n hI with h3|h3|h3
  ·exact (h.sep j b n (hbk j b hj).1 hn).1 h3
  ·exact hout j b n hj hn h3
  ·have:=(h.bxs j b (hbk j b hj).1).lt hn;omega
 ·rcases h2.inew n hn with h3|h3|h3
  ·exact h.inew n h3
  ·exact .inr (hFc n h3)
  ·exact .inr (.inr (Nat.le_trans h.sz h3))
 ·rw[h2.fr n (Nat.lt_of_lt_of_le hn h.sz) (fun h3=>by rcases hFc n h3 with h4|h4;exact hF h4;omega),h.fr n hn hF]
theorem Mem.relabel {w0:World} {I0 F:Nat→Prop} {bx bx':Bxs} {I:Nat→Prop} {β β':Nat→Value} {w:World} (h:Mem w0 I0 F bx I β w) (σ:Nat→Nat)
  (h1:∀ k b,getB bx' k=some b→getB bx (σ k)=some b∧β' k=β (σ k)∧∀ t,am_ t b.cs=true→β' t=β t) (h2:∀ k j b c,getB bx' k=some b→getB bx' j=some c→σ k=σ j→k=j):Mem w0 I0 F bx' I β' w:=by
 refine⟨fun k b hk=>?_,fun k b n hk hn=>?_,fun k j b c n hk hj hkn hjn=>?_,h.im,h.inew,h.kept,h.fr,h.sz,h.os,h.tape,h.out,h.dr,h.gl⟩
 ·obtain⟨e1,e2,e3⟩:=h1 k b hk
  rw[e2]
  exact (h.bxs _ b e1).mono (.refl w I) e3 fun _ _=>rfl
 ·obtain⟨e1,e2,_⟩:=h1 k b hk
  rw[e2] at hn
  exact h.sep _ b n e1 hn
 ·obtain⟨e1,e2,_⟩:=h1 k b hk
  obtain⟨f1,f2,_⟩:=h1 j c hj
  rw[e2] at hkn
  rw[f2] at hjn
  exact h2 k j b c hk hj (h.inj _ _ b c n e1 f1 hkn hjn)
theorem Rel.enter {w:World} {I:Nat→Prop} {β:Nat→Value} {bi:Bxs} {args:List AV} {vs:List Value} (hm:Mem w I (Fp bi β) bi I β w) (hd:DenAs w I β args vs) (n:Nat) :
  Rel ⟨[],β,none,false⟩ w I (Fp bi β) (dU_ n args bi) I β { tmps:=vs.toArray++Array.replicate (n-vs.toArray.size) undef,defers:=[] } w:=by
 refine⟨hm,?_,⟨rfl,fun _=>rfl⟩,fun _ _=>rfl⟩
 simp only[dU_,Array.toList_append,Array.toList_replicate]
 rw[hd.length]
 have:=cu_ (w:=w) (I:=I) (β:=β) (List.replicate (n-vs.length) undef)
 simp only[List.length_replicate] at this
 exact hd.append (by simpa using this)
theorem vC_ {P:Program} {id:Nat} {o1 o2:Oper} {t:Nat} {g:FuncId} {caps:Array Operand} {Q:Exit→Act→World→Prop} {a:Act} {w:World} (h1:o1.op=.makeFunc (.func g) #[] caps) (hd1:o1.dst=some t) (hg1:o1.guard=none)
  (h2:o2.op=.defer ⟨.value (.tmp t),#[],#[]⟩) (hd2:o2.dst=none) (hg2:o2.guard=none) (ht:t<a.tmps.size)
  (h:Q .normal { a.put (some t) (.func (.func g) #[] (caps.map a.eval)) with defers:={ target:=.fn (.func g) (caps.map a.eval),args := #[] }::a.defers } w):(Code.region id #[o1,o2] false).wp P Q a w:=by
 refine wp_region ?_
 have e1:(execOp a.eval o1).run P w=.ok (.value (.func (.func g) #[] (caps.map a.eval))) w:=by simp[execOp,h1,Instr.makeFunc]
 have hr:List.range #[o1,o2].size=[0,1]:=rfl
 have hv:(a.put (some t) (.func (.func g) #[] (caps.map a.eval))).eval (.tmp t)=.func (.func g) #[] (caps.map a.eval):=by simp[Act.eval,Act.put,ht]
 have e2:(execOp (a.put (some t) (.func (.func g) #[] (caps.map a.eval))).eval o2).run P w=.ok (.defer { target:=.fn (.func g) (caps.map a.eval),args := #[] }) w:=by
  simp only[execOp,h2,resolve,hv]
  simp[Deferred.ofValue]
 rw[hr]
 simp only[wpOps,List.getElem?_toArray,List.getElem?_cons_zero,List.getElem?_cons_succ,Region.wanted,hg1,hg2,if_true,Oper.wp,e1,hd1,Oper.upon_value,e2,hd2,Oper.upon_defer]
 exact .inl (.inl h)
theorem ol_ {P:Program} {ds:Dn} {pn:Pn} {o:Oper} {S:St} (k:Nat) (hb:getB S.bx k=some po_) (e:Eff):LCore P ds pn o S e [k]:=by
 intro S1 hs _ w0 I0 F I β a w hr next Q hn hp
 have h:=hs.2.2 k (by simp)
 rw[hb] at h
 obtain⟨b,vs,_,_,hd,_⟩:=hr.mem.bxs k _ h
 obtain⟨v,vs',_,h1,_⟩:=hd
 rw[DenA] at h1
 exact (q3_ h1).elim
theorem kt_ {P:Program} {ds:Dn} {pn:Pn} {o:Oper} {S:St} {acc:List TI} {rest:St→List TI→Prop} (k:Nat) (hb:getB S.bx k=some po_) (h:rest (S.app o.dst ⟨.d .any,[],[],[]⟩) (⟨⟨.d .any,[],[],[]⟩,[k]⟩::acc)):vcStop P ds pn o rest S acc :=
 ⟨⟨.d .any,[],[],[]⟩,[k],ol_ k hb _,trivial,h⟩
theorem Mem.after {w0:World} {I0 F:Nat→Prop} {bx cb bo:Bxs} {I I':Nat→Prop} {β β':Nat→Value} {w w':World} (h:Mem w0 I0 F bx I β w) (hcb:∀ k b,getB cb k=some b→getB bx k=some b)
  (h2:Mem w I (Fp cb β) bo I' β' w'):Mem w0 I0 F bo I' β' w':=by
 have hFc:∀ n,Fp cb β n→F n∨w0.heap.size≤n:=fun n ⟨k,b,hk,hn⟩=>(h.sep k b n (hcb k b hk) hn).2
 refine⟨h2.bxs,fun j b n hj hn=>⟨(h2.sep j b n hj hn).1,?_⟩,h2.inj,h2.im,fun n hn=>?_,h.kept.trans h2.kept,fun n hn hF=>?_,Nat.le_trans h.sz h2.sz,h2.os.trans h.os,h2.tape.trans h.tape,h2.out.trans h.out,Nat.le_trans h.dr h2.dr,h.gl⟩
 ·rcases (h2.sep j b n hj hn).2 with h3|h3
  ·exact hFc n h3
  ·exact .inr (Nat.le_trans h.sz h3)
 ·rcases h2.inew n hn with h3|h3|h3
  ·exact h.inew n h3
  ·exact .inr (hFc n h3)
  ·exact .inr (.inr (Nat.le_trans h.sz h3))
 ·rw[h2.fr n (Nat.lt_of_lt_of_le hn h.sz) (fun h3=>by rcases hFc n h3 with h4|h4;exact hF h4;omega),h.fr n hn hF]
theorem bo_ (k:Nat) {P:Program} {f:FuncId} {T:TypeId} {sz n:Nat} {cs:List D} {args args':List AV} {bi bi':Bxs} {res:AV} {bo:Bxs} {ok:List PanicEntry→Prop} (h:Fun P f args bi res bo ok)
  (hb:getB bi' k=some (.row T sz n (cs.map .d))) (ha:gx_ k sz n cs args'=args) (hbi:oH_ (lq_ k sz n cs bi') bi):Fun P f args' bi' res bo ok:=by
 intro w I β vs hm hd
 have hr:Rel ⟨[],β,none,false⟩ w I (Fp bi' β) ⟨args',bi',[]⟩ I β { tmps:=vs.toArray,defers:=[] } w:=⟨hm,by simpa using hd,⟨rfl,fun _=>rfl⟩,fun _ _=>rfl⟩
 obtain⟨I1,β1,hr1⟩:=Wk.freeze hb _ _ _ _ _ _ _ _ hr
 have hm1:=hr1.mem.start (cb:=bi) (subB_ok hbi)
 have hd1:=hr1.sl
 simp only[ha] at hd1
 refine Calls.mono (h w I1 β1 vs hm1 (by simpa using hd1)) fun e w' he=>?_
 cases e with
 | returned v =>
  obtain⟨I',β',h1,h2,h3⟩:=he
  exact⟨I',β',hr1.mem.after (subB_ok hbi) h1,h2,fun j hj=>(h3 j hj).trans (hr1.fx j hj)⟩
 | panicked ch =>
  obtain⟨h0,I',β',h1⟩:=he
  exact⟨h0,I',β',hr1.mem.after (subB_ok hbi) h1⟩
 | outgrown=>exact he
theorem rf_ {P:Program} {f:FuncId} {args args':List AV} {bi:Bxs} {res:AV} {bo:Bxs} {ok:List PanicEntry→Prop} (h:Fun P f args bi res bo ok) (hl:LeqL args' args):Fun P f args' bi res bo ok :=
 fun w I β vs hm hd=>h w I β vs hm (hl.ok hd)
theorem ao_ {P:Program} {ds:Dn} {pn:Pn} {o:Oper} {S:St} {acc:List TI} {rest:St→List TI→Prop} {fx:Operand} {args:Array Operand} {ts:Array TypeId} {f:FuncId} {first caps:List AV} {cargs:List D} {cres:D}
  (hb:Body P f) (hc:Fn0 P f cargs cres) (ho:o.op=.call ⟨.value fx,args,ts⟩) (hf:qL_ (S.ev fx)=some (f,first,caps))
  (hargs:LeqL (first++args.toList.map S.ev++caps) (cargs.map .d)) (h:rest (S.put o.dst (.d cres)) (⟨⟨.d cres,[],[],[]⟩,[]⟩::acc)):vcStop P ds pn o rest S acc :=
 ⟨_,_,dH_ ho hf hb hc hargs,trivial,h⟩
theorem cZ_ {P:Program} {ds:Dn} {pn:Pn} {o:Oper} {g:Bool} {S:St} {acc:List TI} {rest:St→List TI→Prop} {fx:Operand} {args:Array Operand} {ts:Array TypeId} {f:FuncId} {first caps:List AV} {cargs:List D} {cres:D}
  (hb:Body P f) (hc:g=true→Fn0 P f cargs cres) (ho:o.op=.call ⟨.value fx,args,ts⟩) (hf:g=true→qL_ ((S.under g).ev fx)=some (f,first,caps))
  (hargs:g=true→LeqL (first++args.toList.map (S.under g).ev++caps) (cargs.map .d)) (h:rest (S.put o.dst (.when g (.d cres))) (⟨⟨.when g (.d cres),[],[],[]⟩,[]⟩::acc)):vcStopG P ds pn o rest g S acc :=
 ⟨_,_,fun hg=>dH_ ho (hf hg) hb (hc hg) (hargs hg),h⟩
@[simp] theorem El_ {l m:List D} (h:LeqL (l.map .d) (m.map .d)):Leq (.d (.agg l)) (.d (.agg m))↔True:=⟨fun _=>trivial,fun _=>((of_ l).trans (Leq.agg h)).trans (al_ m)⟩
theorem ri_ {w:World} {I:Nat→Prop} {β:Nat→Value} {c:AV} {cs:List AV} {v:Value} {vs:List Value}:DenAs w I β (c::cs) (v::vs)↔DenA w I β c v∧DenAs w I β cs vs:=by
 rw[DenAs]
 exact⟨fun ⟨v',vs',e,h1,h2⟩=>by cases e;exact⟨h1,h2⟩,fun ⟨h1,h2⟩=>⟨v,vs,rfl,h1,h2⟩⟩
theorem rh_ {w:World} {I:Nat→Prop} {β:Nat→Value}:DenAs w I β [] []↔True:=by rw[DenAs];simp
theorem oo_ {w:World} {I:Nat→Prop} {β:Nat→Value} {y:Value}:DenA w I β (.d .any) y↔True:=⟨fun _=>trivial,fun _=>bL_ _ _ _ _⟩
end Go.Xe
