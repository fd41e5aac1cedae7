/-
  Joined texts.
-/
import Derived.Test.YtdjkbdhdejlakaaGreatDoorVEngMa
import Derived.Maps.RangeRun
import Derived.Test.YtdjkbdhdejlakaaGreatDoorV8
set_option linter.unusedVariables false
set_option linter.unusedSimpArgs false
set_option linter.unusedSectionVars false
namespace Go.Xe
open Go.RowKit
variable [Glob]
/-! ### other boxes over the same memory -/
theorem Mem.rebox {w0:World} {I0 F:Nat→Prop} {bx bx':Bxs} {I I':Nat→Prop} {β β':Nat→Value} {w:World} (h:Mem w0 I0 F bx I β w)
  (hI:∀ n,I n→I' n) (hnew:∀ n,I' n→I n∨∃ k b,getB bx k=some b∧Blk (β k) n)
  (hbx:∀ k b,getB bx' k=some b→BoxRel w I' β' (β' k) b)
  (hblk:∀ k b n,getB bx' k=some b→Blk (β' k) n→¬ I' n∧∃ k0 b0,getB bx k0=some b0∧Blk (β k0) n)
  (hinj:∀ k j b c n,getB bx' k=some b→getB bx' j=some c→Blk (β' k) n→Blk (β' j) n→k=j):Mem w0 I0 F bx' I' β' w:=by
 refine⟨hbx,fun k b n hk hn=>?_,hinj,fun n hn=>?_,fun n hn=>?_,h.kept.trans ⟨hI,fun _ _=>rfl⟩,h.fr,h.sz,h.os,h.tape,h.out,h.dr,h.gl⟩
 ·obtain⟨h1,k0,b0,h2,h3⟩:=hblk k b n hk hn
  exact⟨h1,(h.sep k0 b0 n h2 h3).2⟩
 ·rcases hnew n hn with h1|⟨k,b,h1,h2⟩
  ·exact h.im n h1
  ·exact (h.bxs k b h1).lt h2
 ·rcases hnew n hn with h1|⟨k,b,h1,h2⟩
  ·exact h.inew n h1
  ·exact .inr (h.sep k b n h1 h2).2
/-! ### bundles -/
def EV_ (l:List (Value×Box)) (y:Value) (w:World) (I:Nat→Prop):Prop :=
 y=.tuple (l.map (·.1)).toArray∧(∀ q∈l,BoxRel w I (fun _=>undef) q.1 q.2)∧l.Pairwise fun a b=>∀ n,Blk a.1 n→¬ Blk b.1 n
def Bun (l:List (Value×Box)):Box:=.opq (EV_ l)
def Clo (b:Box):Prop:=b.single=true∧∀ k,al_ k b.cs=false
theorem le_ {l:List (Value×Box)} {n:Nat}:Blk (.tuple (l.map (·.1)).toArray) n↔∃ q∈l,blk q.1=some n:=by
 constructor
 ·rintro (h|⟨vs,e,v,hv,hb⟩)
  ·cases h
  ·cases e
   simp only[List.mem_map] at hv
   obtain⟨q,hq,rfl⟩:=hv
   exact⟨q,hq,hb⟩
 ·rintro⟨q,hq,hb⟩
  exact .inr ⟨_,rfl,q.1,by simpa using ⟨q.2,hq⟩,hb⟩
theorem Bun.out {l:List (Value×Box)} {w:World} {I:Nat→Prop} {β:Nat→Value} {y:Value} (hc:∀ q∈l,Clo q.2) (h:BoxRel w I β y (Bun l)) :
  y=.tuple (l.map (·.1)).toArray∧(∀ q∈l,∀ β',BoxRel w I β' q.1 q.2)∧l.Pairwise fun a b=>∀ n,Blk a.1 n→¬ Blk b.1 n:=by
 obtain⟨w1,I1,⟨h1,h2,h3⟩,hk,hb⟩:=h
 refine⟨h1,fun q hq β'=>?_,h3⟩
 have h4:=h2 q hq
 refine h4.mono hk (fun k hk=>?_) fun n hn=>(hb n ?_).2
 ·rw[(hc q hq).2 k] at hk;cases hk
 ·rw[h1,le_]
  exact⟨q,hq,h4.blk (hc q hq).1 hn⟩
theorem Bun.mk {l:List (Value×Box)} {w:World} {I:Nat→Prop} {β:Nat→Value} (hc:∀ q∈l,Clo q.2) (h:∀ q∈l,∀ β',BoxRel w I β' q.1 q.2) (hp:l.Pairwise fun a b=>∀ n,Blk a.1 n→¬ Blk b.1 n) :
  BoxRel w I β (.tuple (l.map (·.1)).toArray) (Bun l):=by
 refine⟨w,I,⟨rfl,fun q hq=>h q hq _,hp⟩,.refl w I,fun n hn=>⟨?_,rfl⟩⟩
 obtain⟨q,hq,hb⟩:=le_.1 hn
 exact (h q hq β).lt (.inl hb)
/-! ### values that are said in another way, where tag j leads to v -/
def PLe (j:Nat) (v:Value) (x y:AV):Prop:=∀ w I β u,β j=v→DenA w I β x u→DenA w I β y u
def PLeL (j:Nat) (v:Value):List AV→List AV→Prop
 | [],[]=>True
 | x::xs,y::ys=>PLe j v x y∧PLeL j v xs ys
 | _,_=>False
@[simp] theorem PLe.refl (j:Nat) (v:Value) (x:AV):PLe j v x x:=fun _ _ _ _ _ h=>h
@[simp] theorem PLe.any (j:Nat) (v:Value) (x:AV):PLe j v x (.d .any):=fun w I β u _ _=>aX_ w I β u
@[simp] theorem PLeL.refl (j:Nat) (v:Value):∀ l,PLeL j v l l
 | []=>trivial
 | x::xs=>⟨.refl j v x,PLeL.refl j v xs⟩
abbrev r2_ (p off:Nat):Value:=.pointer (some ⟨p,off,none⟩)
@[simp] theorem Ca_ (j p off:Nat):PLe j (r2_ p 0) (.ptr j off) (.d (.v (r2_ p off))):=fun w I β u hj h=>by
 obtain⟨b,h1,h2⟩:=h
 rw[hj] at h1
 cases h1
 rw[DenA_v];exact h2
@[simp] theorem B8_ (j p off:Nat):PLe j (r2_ p 0) (.d (.v (r2_ p off))) (.ptr j off):=fun w I β u hj h=>by
 rw[DenA_v] at h
 exact⟨p,hj,h⟩
@[simp] theorem B9_ (j:Nat) (v:Value):PLe j v (.row j) (.d (.v v)):=fun w I β u hj h=>by
 rw[DenA_v,h.1,hj]
theorem PLeL.ok {j:Nat} {v:Value} {w:World} {I:Nat→Prop} {β:Nat→Value} (hj:β j=v):∀ {l l':List AV} {vs:List Value},PLeL j v l l'→DenAs w I β l vs→DenAs w I β l' vs
 | [],[],_,_,h=>h
 | x::xs,y::ys,_,hl,h=>by obtain⟨u,vs',rfl,h1,h2⟩:=h;exact⟨u,vs',rfl,hl.1 _ _ _ _ hj h1,PLeL.ok hj hl.2 h2⟩
 | [],_::_,_,hl,_=>hl.elim
 | _::_,[],_,hl,_=>hl.elim
def PLeB (j:Nat) (v:Value):Box→Box→Prop
 | .cells T cs,.cells T' cs'=>T=T'∧PLeL j v cs cs'
 | .row T sz n cs,.row T' sz' n' cs'=>T=T'∧sz=sz'∧n=n'∧PLeL j v cs cs'
 | b,b'=>b=b'
theorem PLeB.ok {j:Nat} {v:Value} {w:World} {I:Nat→Prop} {β:Nat→Value} {y:Value} (hj:β j=v) {b b':Box} (h:PLeB j v b b') (hb:BoxRel w I β y b):BoxRel w I β y b':=by
 cases b<;>cases b'<;>simp only[PLeB] at h<;>first
  | (obtain⟨rfl,h⟩:=h;obtain⟨g,vs,e,hh,hd,ho⟩:=hb;exact⟨g,vs,e,hh,h.ok hj hd,ho⟩)
  | (obtain⟨rfl,rfl,rfl,h⟩:=h;obtain⟨vs,hh,hd,ho⟩:=hb;exact⟨vs,hh,h.ok hj hd,ho⟩)
  | (cases h;exact hb)
  | cases h
def PLeBx (j k:Nat) (v:Value) (bx:Bxs):Bxs→Prop
 | []=>True
 | (i,c')::r=>(i≠j∧i≠k∧match getB bx i with
  | some c=>PLeB j v c c'
  | none=>False)∧PLeBx j k v bx r
theorem PLeBx.get {j k:Nat} {v:Value} {bx:Bxs}:∀ {bx':Bxs},PLeBx j k v bx bx'→∀ i c',getB bx' i=some c'→i≠j∧i≠k∧∃ c,getB bx i=some c∧PLeB j v c c'
 | (i0,c0)::r,h,i,c',hi=>by
  simp only[getB] at hi
  split at hi
  ·rename_i e
   subst e
   cases hi
   obtain⟨⟨h1,h2,h3⟩,_⟩:=h
   refine⟨h1,h2,?_⟩
   cases hg:getB bx i0 with
   | none=>rw[hg] at h3;exact h3.elim
   | some c=>rw[hg] at h3;exact⟨c,rfl,h3⟩
  ·exact h.2.get i c' hi
def Opn {α:Type} (S:St) (S':α→St):Prop:=∀ ds w0 I0 F I β a w,Rel ds w0 I0 F S I β a w→∃ x I' β',Rel ds w0 I0 F (S' x) I' β' a w
theorem EG_ {α:Type} {S S1:St} {S':α→St} (h:Wk S S1) (h':Opn S1 S'):Opn S S':=fun ds w0 I0 F I β a w hr=>by
 obtain⟨I1,β1,hr1⟩:=h ds w0 I0 F I β a w hr
 exact h' ds w0 I0 F I1 β1 a w hr1
theorem xa_ {P:Program} {ds:Dn} {pn:Pn} {c:Code} {Q:Exit→St→Prop} {S:St} {α:Type} {S':α→St} (h:Opn S S') (hw:∀ x,WP P ds pn c Q (S' x)):WP P ds pn c Q S:=fun w0 I0 F I β a w hr=>by
 obtain⟨x,I',β',hr'⟩:=h ds w0 I0 F I β a w hr
 exact hw x w0 I0 F I' β' a w hr'
@[simp] theorem PLeB.refl (j:Nat) (v:Value):∀ b,PLeB j v b b
 | .cells _ _=>⟨rfl,.refl ..⟩
 | .row .. => ⟨rfl,rfl,rfl,.refl ..⟩
 | .obj .. => rfl
 | .mp _=>rfl
 | .opq _=>rfl
theorem rs_ {k:Nat} {l:List AV} (h:al_ k l=false):∀ j,al_ j l=true→j≠k:=fun j hj e=>by subst e;rw[h] at hj;cases hj
section
variable {dn:Dn} {w0:World} {I0 F:Nat→Prop} {S S':St} {I:Nat→Prop} {β:Nat→Value} {a:Act} {w:World}
theorem Rel.push (hr:Rel dn w0 I0 F S I β a w) {j k:Nat} {l:List (Value×Box)} {b:Box} (hj:getB S.bx j=some b) (hk:getB S.bx k=some (Bun l)) (hjk:j≠k) (hlt:k<1000) (hc:∀ q∈l,Clo q.2) (hb:Clo b)
  {bx':Bxs} (hs:PLeL j (β j) S.sl S'.sl) (hbx:S'.bx=(k,Bun ((β j,b)::l))::bx') (hpb:PLeBx j k (β j) S.bx bx') (hdf:S'.df=S.df) (hf1:al_ k S'.sl=false) (hf2:ei_ k bx'=false):∃ β',Rel dn w0 I0 F S' I β' a w:=by
 obtain⟨o1,o2,o3⟩:=Bun.out hc (hr.mem.bxs k _ hk)
 have hjb:=hr.mem.bxs j b hj
 have hcl:∀ β',BoxRel w I β' (β j) b:=fun β'=>hjb.mono (.refl w I) (fun t ht=>by rw[hb.2 t] at ht;cases ht) fun _ _=>rfl
 have hall:∀ q∈(β j,b)::l,∀ β',BoxRel w I β' q.1 q.2:=fun q hq β'=>by
  rcases List.mem_cons.1 hq with rfl|hq
  ·exact hcl β'
  ·exact o2 q hq β'
 have hin:∀ q∈l,∀ n,blk q.1=some n→Blk (β k) n:=fun q hq n hn=>by rw[o1,le_];exact⟨q,hq,hn⟩
 have hcc:∀ q∈(β j,b)::l,Clo q.2:=fun q hq=>by
  rcases List.mem_cons.1 hq with rfl|hq
  ·exact hb
  ·exact hc q hq
 have hpw:((β j,b)::l).Pairwise fun a b=>∀ n,Blk a.1 n→¬ Blk b.1 n:=by
  refine List.pairwise_cons.2 ⟨fun q hq n h1 h2=>?_,o3⟩
  exact hjk (hr.mem.inj j k b _ n hj hk h1 (hin q hq n ((o2 q hq β).blk (hc q hq).1 h2)))
 obtain⟨g1,g2⟩:=hasB_get hf2
 have hget:∀ i c',getB S'.bx i=some c'→(i=k∧c'=Bun ((β j,b)::l))∨(i≠k∧getB bx' i=some c'):=fun i c' h=>by
  rw[hbx] at h
  simp only[getB] at h
  split at h
  ·rename_i e;cases h;exact .inl ⟨e.symm,rfl⟩
  ·rename_i e;exact .inr ⟨fun e'=>e e'.symm,h⟩
 have hT:∀ n,Blk (.tuple (((β j,b)::l).map (·.1)).toArray) n→∃ k0 b0,getB S.bx k0=some b0∧Blk (β k0) n∧(k0=j∨k0=k):=fun n hn=>by
  obtain⟨q,hq,hqn⟩:=le_.1 hn
  rcases List.mem_cons.1 hq with rfl|hq
  ·exact⟨j,b,hj,.inl hqn,.inl rfl⟩
  ·exact⟨k,_,hk,hin q hq n hqn,.inr rfl⟩
 refine⟨upd β k (.tuple (((β j,b)::l).map (·.1)).toArray),⟨hr.mem.rebox (fun _ h=>h) (fun n h=>.inl h) (fun i c' h=>?_) (fun i c' n h hn=>?_) (fun i i' c c' n h1 h2 hn1 hn2=>?_),?_,?_,fun i hi=>?_⟩⟩
 ·rcases hget i c' h with⟨rfl,rfl⟩|⟨hne,hi⟩
  ·rw[upd_same];exact Bun.mk hcc hall hpw
  ·rw[upd_other _ _ hne]
   obtain⟨_,_,c,h1,h2⟩:=hpb.get i c' hi
   refine (h2.ok rfl (hr.mem.bxs i c h1)).mono (.refl w I) (fun t ht=>upd_other _ _ fun e=>?_) fun _ _=>rfl
   subst e;rw[g2 i c' hi] at ht;cases ht
 ·rcases hget i c' h with⟨rfl,rfl⟩|⟨hne,hi⟩
  ·rw[upd_same] at hn
   obtain⟨k0,b0,h1,h2,_⟩:=hT n hn
   exact⟨(hr.mem.sep k0 b0 n h1 h2).1,k0,b0,h1,h2⟩
  ·rw[upd_other _ _ hne] at hn
   obtain⟨_,_,c,h1,_⟩:=hpb.get i c' hi
   exact⟨(hr.mem.sep i c n h1 hn).1,i,c,h1,hn⟩
 ·rcases hget i c h1 with⟨rfl,rfl⟩|⟨hne,hi⟩<;>rcases hget i' c' h2 with⟨rfl,rfl⟩|⟨hne',hi'⟩
  ·rfl
  ·rw[upd_same] at hn1
   rw[upd_other _ _ hne'] at hn2
   obtain⟨k0,b0,e1,e2,e3⟩:=hT n hn1
   obtain⟨f1,f2,c0,f3,_⟩:=hpb.get i' c' hi'
   have:=hr.mem.inj k0 i' b0 c0 n e1 f3 e2 hn2
   rcases e3 with rfl|rfl
   ·exact absurd this.symm f1
   ·exact this
  ·rw[upd_same] at hn2
   rw[upd_other _ _ hne] at hn1
   obtain⟨k0,b0,e1,e2,e3⟩:=hT n hn2
   obtain⟨f1,f2,c0,f3,_⟩:=hpb.get i c hi
   have:=hr.mem.inj k0 i b0 c0 n e1 f3 e2 hn1
   rcases e3 with rfl|rfl
   ·exact absurd this.symm f1
   ·exact this.symm
  ·rw[upd_other _ _ hne] at hn1
   rw[upd_other _ _ hne'] at hn2
   obtain⟨_,_,c0,f3,_⟩:=hpb.get i c hi
   obtain⟨_,_,c1,f4,_⟩:=hpb.get i' c' hi'
   exact hr.mem.inj i i' c0 c1 n f3 f4 hn1 hn2
 ·exact DenAs.mono (.refl w I) _ _ (fun t ht=>upd_other _ _ (rs_ hf1 t ht)) (hs.ok rfl hr.sl)
 ·rw[hdf];exact hr.dn
 ·rw[upd_other _ _ (by omega)];exact hr.fx i hi
end
section
variable {S:St}
end
/-! ### tags whose values are known for a while -/
def Cv (ds ds':Dn) (S S':St):Prop:=(ds'.ds=ds.ds∧ds'.ro=ds.ro∧ds'.rf=ds.rf)∧∀ w0 I0 F I β a w,Rel ds w0 I0 F S I β a w→∃ I' β',Rel ds' w0 I0 F S' I' β' a w
theorem Cv.trans {ds ds' ds'':Dn} {S S' S'':St} (h:Cv ds ds' S S') (h':Cv ds' ds'' S' S''):Cv ds ds'' S S'' :=
 ⟨⟨h'.1.1.trans h.1.1,h'.1.2.1.trans h.1.2.1,h'.1.2.2.trans h.1.2.2⟩,fun w0 I0 F I β a w hr=>by
  obtain⟨I1,β1,h1⟩:=h.2 w0 I0 F I β a w hr
  exact h'.2 w0 I0 F I1 β1 a w h1⟩
theorem Cv.push {ds:Dn} {S:St} (j k:Nat) {l:List (Value×Box)} {b:Box} (hj:getB S.bx j=some b) (hk:getB S.bx k=some (Bun l)) (hj0:1000≤j) (hlt:k<1000) (hc:∀ q∈l,Clo q.2) (hb:Clo b) (sl':List AV) (bx':Bxs)
  (hs:PLeL j (ds.β0 j) S.sl sl') (hpb:PLeBx j k (ds.β0 j) S.bx bx') (hf1:al_ k sl'=false) (hf2:ei_ k bx'=false):Cv ds ds S ⟨sl',(k,Bun ((ds.β0 j,b)::l))::bx',S.df⟩ :=
 ⟨⟨rfl,rfl,rfl⟩,fun w0 I0 F I β a w hr=>by
  have hv:=hr.fx j hj0
  rw[← hv] at hs hpb ⊢
  obtain⟨β',h'⟩:=Rel.push (S':=⟨sl',(k,Bun ((β j,b)::l))::bx',S.df⟩) hr hj hk (by omega) hlt hc hb (bx':=bx') hs rfl hpb rfl hf1 hf2
  exact⟨I,β',h'⟩⟩
def CvO (ds ds':Dn) (S:St) {α:Type} (S':α→St):Prop:=(ds'.ds=ds.ds∧ds'.ro=ds.ro∧ds'.rf=ds.rf)∧∀ w0 I0 F I β a w,Rel ds w0 I0 F S I β a w→∃ x I' β',Rel ds' w0 I0 F (S' x) I' β' a w
theorem Du_ {ds ds' ds'':Dn} {S:St} {α:Type} {S' S2:α→St} (h:CvO ds ds' S S') (hd:ds''.ds=ds'.ds∧ds''.ro=ds'.ro∧ds''.rf=ds'.rf) (h':∀ x,Cv ds' ds'' (S' x) (S2 x)):CvO ds ds'' S S2 :=
 ⟨⟨hd.1.trans h.1.1,hd.2.1.trans h.1.2.1,hd.2.2.trans h.1.2.2⟩,fun w0 I0 F I β a w hr=>by
  obtain⟨x,I1,β1,h1⟩:=h.2 w0 I0 F I β a w hr
  exact⟨x,(h' x).2 w0 I0 F I1 β1 a w h1⟩⟩
end Go.Xe
namespace Go.Xe
open Go.RowKit
variable [Glob]
/-! ### given up -/
def Fz (w:World) (I:Nat→Prop) (q:Value×Box):Prop :=
 match q.2 with
 | .cells _ cs=>∀ ds:List D,cs=ds.map .d→∀ off,off≤ds.length→∃ p,q.1=r2_ p 0∧DenAt w I ds p 0
 | .row _ sz n cs=>∀ ds:List D,cs=ds.map .d→Den w I (.sl sz ds n false) q.1
 | _=>True
def FLe (l:List (Value×Box)) (x y:AV):Prop:=∀ w I β u,(∀ q∈l,Fz w I q)→DenA w I β x u→DenA w I β y u
def FLeL (l:List (Value×Box)):List AV→List AV→Prop
 | [],[]=>True
 | x::xs,y::ys=>FLe l x y∧FLeL l xs ys
 | _,_=>False
@[simp] theorem FLe.refl (l:List (Value×Box)) (x:AV):FLe l x x:=fun _ _ _ _ _ h=>h
@[simp] theorem FLe.any (l:List (Value×Box)) (x:AV):FLe l x (.d .any):=fun w I β u _ _=>aX_ w I β u
@[simp] theorem FLeL.refl (l:List (Value×Box)):∀ xs,FLeL l xs xs
 | []=>trivial
 | x::xs=>⟨.refl l x,FLeL.refl l xs⟩
theorem FLeL.ok {l:List (Value×Box)} {w:World} {I:Nat→Prop} {β:Nat→Value} (hf:∀ q∈l,Fz w I q):∀ {xs ys:List AV} {vs:List Value},FLeL l xs ys→DenAs w I β xs vs→DenAs w I β ys vs
 | [],[],_,_,h=>h
 | x::xs,y::ys,_,hl,h=>by obtain⟨u,vs',rfl,h1,h2⟩:=h;exact⟨u,vs',rfl,hl.1 _ _ _ _ hf h1,FLeL.ok hf hl.2 h2⟩
 | [],_::_,_,hl,_=>hl.elim
 | _::_,[],_,hl,_=>hl.elim
def FD (l:List (Value×Box)) (d d':D):Prop:=∀ w I u,(∀ q∈l,Fz w I q)→Den w I d u→Den w I d' u
@[simp] theorem FD.refl (l:List (Value×Box)) (d:D):FD l d d:=fun _ _ _ _ h=>h
def FDs (l:List (Value×Box)):List D→List D→Prop
 | [],[]=>True
 | x::xs,y::ys=>FD l x y∧FDs l xs ys
 | _,_=>False
theorem FDs.dens {l:List (Value×Box)} {w:World} {I:Nat→Prop} (hf:∀ q∈l,Fz w I q):∀ {xs ys:List D} {vs:List Value},FDs l xs ys→Dens w I xs vs→Dens w I ys vs
 | [],[],_,_,h=>h
 | x::xs,y::ys,_,hl,h=>by obtain⟨u,vs',rfl,h1,h2⟩:=h;exact⟨u,vs',rfl,hl.1 _ _ _ hf h1,FDs.dens hf hl.2 h2⟩
 | [],_::_,_,hl,_=>hl.elim
 | _::_,[],_,hl,_=>hl.elim
theorem FDs.denAt {l:List (Value×Box)} {w:World} {I:Nat→Prop} (hf:∀ q∈l,Fz w I q) {b:Nat}:∀ {xs ys:List D} {off:Nat},FDs l xs ys→DenAt w I xs b off→DenAt w I ys b off
 | [],[],_,_,_=>trivial
 | x::xs,y::ys,off,hl,⟨⟨v,h1,h2,h3,h4⟩,h5⟩=>⟨⟨v,h1,h2,h3,hl.1 _ _ _ hf h4⟩,FDs.denAt hf hl.2 h5⟩
 | [],_::_,_,hl,_=>hl.elim
 | _::_,[],_,hl,_=>hl.elim
theorem FD.ip {l:List (Value×Box)} {p:Nat} {T:TypeId} {ds es:List D} (hq:(r2_ p 0,Box.cells T (ds.map .d))∈l) (h:FDs l ds es):FD l (.v (r2_ p 0)) (.ip es):=fun w I u hf hu=>by
 rw[Den] at hu
 subst hu
 obtain⟨p',e,hd⟩:=hf _ hq ds rfl 0 (Nat.zero_le _)
 cases e
 rw[Den]
 exact⟨p,0,rfl,h.denAt hf hd⟩
theorem FD.sl {l:List (Value×Box)} {v:Value} {T:TypeId} {sz n:Nat} {ds:List D} (hq:(v,Box.row T sz n (ds.map .d))∈l):FD l (.v v) (.sl sz ds n false):=fun w I u hf hu=>by
 rw[Den] at hu
 subst hu
 exact hf _ hq ds rfl
def FB (l:List (Value×Box)):Box→Box→Prop
 | .cells T cs,.cells T' cs'=>T=T'∧FLeL l cs cs'
 | .row T sz n cs,.row T' sz' n' cs'=>T=T'∧sz=sz'∧n=n'∧FLeL l cs cs'
 | .mp kvs,.mp kvs'=>kvs.map (·.1)=kvs'.map (·.1)∧FDs l (kvs.map (·.2)) (kvs'.map (·.2))
 | b,b'=>b=b'
@[simp] theorem FDs.refl (l:List (Value×Box)):∀ ds,FDs l ds ds
 | []=>trivial
 | x::xs=>⟨.refl l x,FDs.refl l xs⟩
@[simp] theorem FB.refl (l:List (Value×Box)):∀ b,FB l b b
 | .cells _ _=>⟨rfl,.refl ..⟩
 | .row .. => ⟨rfl,rfl,rfl,.refl ..⟩
 | .obj .. => rfl
 | .mp _=>⟨rfl,.refl ..⟩
 | .opq _=>rfl
theorem FB.ok {l:List (Value×Box)} {w:World} {I:Nat→Prop} {β:Nat→Value} {y:Value} (hf:∀ q∈l,Fz w I q) {b b':Box} (h:FB l b b') (hb:BoxRel w I β y b):BoxRel w I β y b':=by
 cases b<;>cases b'<;>simp only[FB] at h<;>first
  | (obtain⟨rfl,h⟩:=h;obtain⟨g,vs,e,hh,hd,ho⟩:=hb;exact⟨g,vs,e,hh,h.ok hf hd,ho⟩)
  | (obtain⟨rfl,rfl,rfl,h⟩:=h;obtain⟨vs,hh,hd,ho⟩:=hb;exact⟨vs,hh,h.ok hf hd,ho⟩)
  | (obtain⟨h1,h2⟩:=h;obtain⟨g,es,clock,e,hg,hk,hd,hst⟩:=hb;exact⟨g,es,clock,e,hg,hk.trans h1,h2.dens hf hd,hst⟩)
  | (cases h;exact hb)
  | cases h
def FBx (l:List (Value×Box)) (k:Nat) (bx:Bxs):Bxs→Prop
 | []=>True
 | (i,c')::r=>(i≠k∧match getB bx i with
  | some c=>FB l c c'
  | none=>False)∧FBx l k bx r
theorem FBx.get {l:List (Value×Box)} {k:Nat} {bx:Bxs}:∀ {bx':Bxs},FBx l k bx bx'→∀ i c',getB bx' i=some c'→i≠k∧∃ c,getB bx i=some c∧FB l c c'
 | (i0,c0)::r,h,i,c',hi=>by
  simp only[getB] at hi
  split at hi
  ·rename_i e
   subst e
   cases hi
   obtain⟨⟨h1,h3⟩,_⟩:=h
   refine⟨h1,?_⟩
   cases hg:getB bx i0 with
   | none=>rw[hg] at h3;exact h3.elim
   | some c=>rw[hg] at h3;exact⟨c,rfl,h3⟩
  ·exact h.2.get i c' hi
end Go.Xe
namespace Go.Xe
open Go.RowKit
variable [Glob]
structure Ent3 where
 key:Value
 born:Nat
 d:D
 deriving Inhabited
def EH_ (g:Nat) (l:List Ent3) (clock:Nat) (y:Value) (w:World) (I:Nat→Prop):Prop :=
 y=.map (some g)∧∃ es,w.heap[g]? = some (.map es clock)∧es.toList.map (fun e=>(e.key,e.born))=l.map (fun e=>(e.key,e.born))∧Dens w I (l.map (·.d)) (es.toList.map (·.val))
def MapAt (g:Nat) (l:List Ent3) (clock:Nat):Box:=.opq (EH_ g l clock)
def lq_ (l:List Ent3) (clock:Nat):Prop:=(∀ e∈l,e.born<clock)∧(l.map (·.born)).Nodup∧(l.map (·.key)).Nodup
def left3 (l:List Ent3) (seen:Array Nat):List Ent3:=l.filter fun e => !seen.contains e.born
def ItP (g c:Nat) (seen:Array Nat) (y:Value) (w:World) (I:Nat→Prop):Prop:=∃ r,y=r2_ r 0∧w.heap[r]? = some (.mapIter (some g) c seen c)
def ItAt (g c:Nat) (seen:Array Nat):Box:=.opq (ItP g c seen)
def iZ_ (g:Nat) (l:List Ent3) (c:Nat) (seen:Array Nat):Box:=.opq fun y w I=>∃ e∈left3 l seen,ItP g c (seen.push e.born) y w I
theorem ge_ {l:List Ent3} (hn:(l.map (·.born)).Nodup) {seen:Array Nat} {e:Ent3} (he:e∈left3 l seen):(e::left3 l (seen.push e.born)).Perm (left3 l seen):=by
 have hc:∀ b:Nat,(seen.push e.born).contains b=(seen.contains b||decide (b=e.born)):=fun b=>by
  rw[Bool.eq_iff_iff]
  simp[Array.mem_push]
 have h1:left3 l (seen.push e.born)=(left3 l seen).filter fun y => !decide (y.born=e.born):=by
  unfold left3
  rw[List.filter_filter]
  refine List.filter_congr fun y _=>?_
  rw[hc,Bool.not_or,Bool.and_comm]
 have hn2:((left3 l seen).map (·.born)).Nodup:=hn.sublist (List.filter_sublist.map _)
 rw[h1]
 generalize left3 l seen=m at he hn2
 obtain⟨x,y,rfl⟩:=List.append_of_mem he
 rw[List.map_append,List.map_cons] at hn2
 obtain⟨_,h3,h4⟩:=List.nodup_append.1 hn2
 have hx:x.filter (fun y => !decide (y.born=e.born))=x:=List.filter_eq_self.2 fun z hz=>by
  have:=h4 z.born (List.mem_map.2 ⟨z,hz,rfl⟩) e.born (by simp)
  simpa using this
 have hy:y.filter (fun y => !decide (y.born=e.born))=y:=List.filter_eq_self.2 fun z hz=>by
  have:=(List.nodup_cons.1 h3).1
  have hne:z.born≠e.born:=fun h=>this (h▸List.mem_map.2 ⟨z,hz,rfl⟩)
  simpa using hne
 rw[List.filter_append,List.filter_cons,hx,hy]
 simp only[decide_true,Bool.not_true,Bool.false_eq_true,if_false]
 exact List.perm_middle.symm
section
variable {dn:Dn} {w0:World} {I0 F:Nat→Prop} {S:St} {I:Nat→Prop} {β:Nat→Value} {a:Act} {w:World}
theorem h5_ {g:Nat} {l:List Ent3} {c:Nat} {y:Value} (h:BoxRel w I β y (MapAt g l c)):EH_ g l c y w I:=by
 obtain⟨w1,I1,⟨rfl,es,h1,h2,h3⟩,hk,hb⟩:=h
 exact⟨rfl,es,by rw[(hb g (.inl rfl)).2];exact h1,h2,Dens.mono hk _ _ h3⟩
theorem pP_ {p:Value→World→(Nat→Prop)→Prop} {y:Value} (h:p y w I) (hb:∀ n,Blk y n→n<w.heap.size):BoxRel w I β y (.opq p):=⟨w,I,h,.refl w I,fun n hn=>⟨hb n hn,rfl⟩⟩
theorem tj_ {g c:Nat} {seen:Array Nat} {y:Value} (h:BoxRel w I β y (ItAt g c seen)):ItP g c seen y w I:=by
 obtain⟨w1,I1,⟨r,rfl,h1⟩,hk,hb⟩:=h
 exact⟨r,rfl,by rw[(hb r (.inl rfl)).2];exact h1⟩
theorem uM_ {g c:Nat} {l:List Ent3} {seen:Array Nat} {y:Value} (h:BoxRel w I β y (iZ_ g l c seen)):∃ e∈left3 l seen,ItP g c (seen.push e.born) y w I:=by
 obtain⟨w1,I1,⟨e,he,r,rfl,h1⟩,hk,hb⟩:=h
 exact⟨e,he,r,rfl,by rw[(hb r (.inl rfl)).2];exact h1⟩
theorem Rel.say (hr:Rel dn w0 I0 F S I β a w) {k:Nat} {b b':Box} (hb:getB S.bx k=some b) (h:BoxRel w I β (β k) b'):Rel dn w0 I0 F ⟨S.sl,setB S.bx k b',S.df⟩ I β a w:=by
 have hget:∀ i c',getB (setB S.bx k b') i=some c'→∃ c,getB S.bx i=some c∧BoxRel w I β (β i) c':=fun i c' h'=>by
  rw[bb_] at h'
  split at h'
  ·rename_i e;subst e;cases h';exact⟨b,hb,h⟩
  ·exact⟨c',h',hr.mem.bxs i c' h'⟩
 refine⟨hr.mem.rebox (fun _ h=>h) (fun n h=>.inl h) (fun i c' h=>?_) (fun i c' n h hn=>?_) (fun i i' c c' n h1 h2 hn1 hn2=>?_),hr.sl,hr.dn,hr.fx⟩
 ·obtain⟨_,_,h2⟩:=hget i c' h;exact h2
 ·obtain⟨c,h1,_⟩:=hget i c' h;exact⟨(hr.mem.sep i c n h1 hn).1,i,c,h1,hn⟩
 ·obtain⟨d,h3,_⟩:=hget i c h1
  obtain⟨d',h4,_⟩:=hget i' c' h2
  exact hr.mem.inj i i' d d' n h3 h4 hn1 hn2
end
section
variable {P:Program} {ds:Dn} {pn:Pn} {c:Code} {Q:Exit→St→Prop} {S:St}
theorem rm_ {es:List MapEntry} {kvs:List (Value×D)} (h:es.map (·.key)=kvs.map (·.1)):∃ l:List Ent3,l.map (fun e=>(e.key,e.d))=kvs∧es.map (fun e=>(e.key,e.born))=l.map (fun e=>(e.key,e.born)):=by
 induction es generalizing kvs with
 | nil=>cases kvs with
  | nil=>exact⟨[],rfl,rfl⟩
  | cons _ _=>cases h
 | cons x es ih=>cases kvs with
  | nil=>cases h
  | cons q kvs =>
   simp only[List.map_cons,List.cons.injEq] at h
   obtain⟨l,h1,h2⟩:=ih h.2
   exact⟨⟨x.key,x.born,q.2⟩::l,by simp[h1,h.1],by simp[h2]⟩
theorem gt_ (j:Nat) {kvs:List (Value×D)} (hj:getB S.bx j=some (.mp kvs)) (h:∀ g l clock,l.map (fun e:Ent3=>(e.key,e.d))=kvs→lq_ l clock→WP P ds pn c Q ⟨S.sl,setB S.bx j (MapAt g l clock),S.df⟩):WP P ds pn c Q S:=fun w0 I0 F I β a w hr=>by
 obtain⟨g,es,clock,hβ,hg,hkeys,hvals,hst⟩:=hr.mem.bxs j _ hj
 obtain⟨l,h1,h2⟩:=rm_ hkeys
 have e1:l.map (·.d)=kvs.map (·.2):=by rw[← h1,List.map_map];rfl
 have b1:es.toList.map (·.born)=l.map (·.born):=by
  have:=congrArg (List.map Prod.snd) h2
  simpa [List.map_map,Function.comp_def] using this
 have k1:es.toList.map (·.key)=l.map (·.key):=by
  have:=congrArg (List.map Prod.fst) h2
  simpa [List.map_map,Function.comp_def] using this
 refine h g l clock h1 ⟨fun e he=>?_,by rw[← b1];exact hst.2.1,by rw[← k1];exact hst.2.2⟩ w0 I0 F I β a w (hr.say hj (pP_ ⟨hβ,es,hg,h2,by rw[e1];exact hvals⟩ fun n hn=>?_))
 ·have:e.born∈es.toList.map (·.born):=by rw[b1];exact List.mem_map.2 ⟨e,he,rfl⟩
  obtain⟨x,hx,e2⟩:=List.mem_map.1 this
  rw[← e2];exact hst.1 x hx
 ·exact (hr.mem.bxs j _ hj).lt hn
theorem eW_ (j:Nat) {g:Nat} {l:List Ent3} {clock:Nat} (hj:getB S.bx j=some (MapAt g l clock)) (hl:lq_ l clock):Wk S ⟨S.sl,setB S.bx j (.mp (l.map fun e=>(e.key,e.d))),S.df⟩:=fun dn w0 I0 F I β a w hr=>by
 obtain⟨hβ,es,hg,h2,hv⟩:=h5_ (hr.mem.bxs j _ hj)
 have b1:es.toList.map (·.born)=l.map (·.born):=by
  have:=congrArg (List.map Prod.snd) h2
  simpa [List.map_map,Function.comp_def] using this
 have k1:es.toList.map (·.key)=l.map (·.key):=by
  have:=congrArg (List.map Prod.fst) h2
  simpa [List.map_map,Function.comp_def] using this
 refine⟨I,β,hr.say hj ⟨g,es,clock,hβ,hg,by rw[k1,List.map_map];rfl,by rw[List.map_map];exact hv,⟨fun x hx=>?_,by rw[b1];exact hl.2.1,by rw[k1];exact hl.2.2⟩⟩⟩
 have:x.born∈l.map (·.born):=by rw[← b1];exact List.mem_map.2 ⟨x,hx,rfl⟩
 obtain⟨e,he,e2⟩:=List.mem_map.1 this
 rw[← e2];exact hl.1 e he
theorem oy_ (k:Nat) {g:Nat} {l:List Ent3} {cl:Nat} {seen:Array Nat} (hk:getB S.bx k=some (iZ_ g l cl seen)) (h:∀ e∈left3 l seen,WP P ds pn c Q ⟨S.sl,setB S.bx k (ItAt g cl (seen.push e.born)),S.df⟩):WP P ds pn c Q S:=fun w0 I0 F I β a w hr=>by
 obtain⟨e,he,hi⟩:=uM_ (hr.mem.bxs k _ hk)
 exact h e he w0 I0 F I β a w (hr.say hk (pP_ hi fun n hn=>(hr.mem.bxs k _ hk).lt hn))
end
section
variable {P:Program} {τ:Tab} {dn:Dn} {pn:Pn} {o:Oper} {S:St} {acc:List TI} {rest:St→List TI→Prop}
theorem LCore.range (hτ:aq_ P τ) {T:TypeId} {m:Operand} (ho:o.op=.range T m) {K E:TypeId} {sz1 b1:Nat} {z1:List Value} (ht:τ T=some ⟨.map K E,sz1,b1,z1⟩) (k:Nat) {j:Nat} (hm:S.ev m=.row j) {g:Nat} {l:List Ent3} {cl:Nat} (hb:getB S.bx j=some (MapAt g l cl)) :
  LCore P dn pn o S ⟨.ptr k 0,[],[],[(k,ItAt g cl #[])]⟩ [j]:=by
 intro S1 hs hf
 have em:=hs.1 m (by simp[ho,Op.operands])
 rw[← em] at hm
 obtain⟨dd,hu,hk⟩:=(hτ T _ ht).und
 simp only[TK.ok] at hk
 subst hk
 have hb1:=(hs.2.2 j (by simp)).trans hb
 have hk0:S1.has k=false:=hf _ (List.mem_singleton.2 rfl)
 refine Core.world fun w0 I0 F I β a w hr=>?_
 obtain⟨hβ,es,hg,h2,hv⟩:=h5_ (hr.mem.bxs j _ hb1)
 have hmv:=hr.ev m
 rw[hm,DenA] at hmv
 have hme:a.eval m=.map (some g):=hmv.1.trans hβ
 refine⟨r2_ w.heap.size 0,w.alloc (.mapIter (some g) cl #[] cl),I,upd β k (r2_ w.heap.size 0),?_,?_⟩
 ·simp[execOp,ho,hme,Instr.range,run_underlying hu,MapKept.run_getObj_map hg,newObj,Result.andThen,Sem.run]
 ·rw[ep_]
  refine Rel.put (hr.allocO (o:=.mapIter (some g) cl #[] cl) (b:=ItAt g cl #[]) (y:=r2_ w.heap.size 0) hk0 (fun n h=>?_) (pP_ ⟨w.heap.size,rfl,heap_alloc_new w _⟩ fun n hn=>?_)) o.dst (i1_ k _ 0)
  ·exact Blk.one rfl h
  ·rw[Blk.one (m:=w.heap.size) rfl hn]
   exact (Array.getElem?_eq_some_iff.1 (heap_alloc_new w (.mapIter (some g) cl #[] cl))).1
theorem vcStop.range (hτ:aq_ P τ) {T:TypeId} {m:Operand} (ho:o.op=.range T m) {K E:TypeId} {sz1 b1:Nat} {z1:List Value} (ht:τ T=some ⟨.map K E,sz1,b1,z1⟩) (k:Nat) {j:Nat} (hm:S.ev m=.row j) {g:Nat} {l:List Ent3} {cl:Nat} (hb:getB S.bx j=some (MapAt g l cl)) (hk0:S.has k=false)
  (h:rest (S.app o.dst ⟨.ptr k 0,[],[],[(k,ItAt g cl #[])]⟩) (⟨⟨.ptr k 0,[],[],[(k,ItAt g cl #[])]⟩,[j]⟩::acc)):vcStop P dn pn o rest S acc :=
 ⟨_,_,LCore.range hτ ho ht k hm hb,⟨hk0,trivial⟩,h⟩
theorem th_ {es:Array MapEntry} {l:List Ent3} (h:es.toList.map (fun e=>(e.key,e.born))=l.map (fun e=>(e.key,e.born))) (seen:Array Nat):(leftOf es seen).toList.map (·.born)=(left3 l seen).map (·.born):=by
 have key:∀ (xs:List MapEntry) (l:List Ent3),xs.map (fun e=>(e.key,e.born))=l.map (fun e=>(e.key,e.born))→(xs.filter fun e => !seen.contains e.born).map (·.born)=(l.filter fun e => !seen.contains e.born).map (·.born):=by
  intro xs
  induction xs with
  | nil=>intro l h;cases l with
   | nil=>rfl
   | cons _ _=>cases h
  | cons x xs ih=>intro l h;cases l with
   | nil=>cases h
   | cons y l =>
    simp only[List.map_cons,List.cons.injEq,Prod.mk.injEq] at h
    have:=ih l h.2
    rw[List.filter_cons,List.filter_cons,h.1.2]
    split
    ·rw[List.map_cons,List.map_cons,this,h.1.2]
    ·exact this
 have:=key es.toList l h
 simpa [leftOf,left3] using this
theorem Aa_ {r n:Nat} (h:Blk (r2_ r 0) n):n=r:=Blk.one rfl h
theorem jn_ {it:Operand} (ho:o.op=.next it false) {k j:Nat} (hi:S.ev it=.ptr k 0) {g:Nat} {l:List Ent3} {cl:Nat} {seen:Array Nat} (hk:getB S.bx k=some (ItAt g cl seen)) (hb:getB S.bx j=some (MapAt g l cl)) (hl:lq_ l cl) (hne:left3 l seen≠[]) :
  LCore P dn pn o S ⟨.tup [.d (.v (.bool true)),.d .any,.d .any],[],[(k,iZ_ g l cl seen)],[]⟩ [k,j]:=by
 intro S1 hs _
 have ei:=hs.1 it (by simp[ho,Op.operands])
 rw[← ei] at hi
 have hk1:=(hs.2.2 k (by simp)).trans hk
 have hb1:=(hs.2.2 j (by simp)).trans hb
 refine Core.world fun w0 I0 F I β a w hr=>?_
 obtain⟨hβ,es,hg,h2,hv⟩:=h5_ (hr.mem.bxs j _ hb1)
 obtain⟨r,hβk,hr0⟩:=tj_ (hr.mem.bxs k _ hk1)
 have hiv:=hr.ev it
 rw[hi] at hiv
 obtain⟨b,e1,e2⟩:=hiv
 rw[hβk] at e1
 cases e1
 have b1:es.toList.map (·.born)=l.map (·.born):=by
  have:=congrArg (List.map Prod.snd) h2
  simpa [List.map_map,Function.comp_def] using this
 have hold:∀ x∈es.toList,x.born<cl:=fun x hx=>by
  have:x.born∈l.map (·.born):=by rw[← b1];exact List.mem_map.2 ⟨x,hx,rfl⟩
  obtain⟨e,he,e3⟩:=List.mem_map.1 this
  rw[← e3];exact hl.1 e he
 have hlo:=th_ h2 seen
 rcases run_next_at (P:=P) w o.type r g cl cl seen es cl hr0 hg hold (Nat.le_refl _) with⟨h0,_⟩|⟨e,he,w1,hw1,hrun⟩
 ·exfalso
  have:(leftOf es seen).toList=[]:=by
   have:(leftOf es seen).toList.length=0:=by simpa using h0
   exact List.eq_nil_of_length_eq_zero this
  rw[this] at hlo
  cases hL:left3 l seen with
  | nil=>exact hne hL
  | cons _ _=>rw[hL] at hlo;cases hlo
 ·have hbn:e.born∈(left3 l seen).map (·.born):=by rw[← hlo];exact List.mem_map.2 ⟨e,he,rfl⟩
  obtain⟨e',he',hee⟩:=List.mem_map.1 hbn
  have hr1:Rel dn w0 I0 F S1 I β a w1:=by
   rcases hw1 with rfl|rfl
   ·exact hr
   ·exact hr.drew
  have hr01:w1.heap[r]? = some (.mapIter (some g) cl seen cl):=by rcases hw1 with rfl|rfl<;>exact hr0
  have hnI:¬ I r:=(hr.mem.sep k _ r hk1 (by rw[hβk];exact .inl rfl)).1
  have hgb:Gb w1 (ChangeMaps.setBlock w1 r (.mapIter (some g) cl (seen.push e.born) cl)) (blk (β k)):=by
   rw[hβk]
   exact⟨⟨rfl,rfl,rfl,by simp[ChangeMaps.setBlock],fun i _ hi=>by
    show (w1.heap.setIfInBounds r _)[i]? = _
    exact (MapKept.heap_set hr01).2 i (fun e=>hi (by rw[e];rfl))⟩,Nat.le_refl _⟩
  have hnew:(ChangeMaps.setBlock w1 r (.mapIter (some g) cl (seen.push e.born) cl)).heap[r]? = some (.mapIter (some g) cl (seen.push e.born) cl):=(MapKept.heap_set hr01).1
  have hkp:Kept w1 I (ChangeMaps.setBlock w1 r (.mapIter (some g) cl (seen.push e.born) cl)) I:=⟨fun _ h=>h,fun n hn=>(MapKept.heap_set hr01).2 n (fun e=>hnI (e▸hn))⟩
  refine⟨.tuple #[.bool true,e.key,e.val],ChangeMaps.setBlock w1 r (.mapIter (some g) cl (seen.push e.born) cl),I,β,?_,?_⟩
  ·simp[execOp,ho,e2,hrun]
  ·rw[by_]
   refine Rel.put (S:=⟨S1.sl,setB S1.bx k (iZ_ g l cl seen),S1.df⟩) ⟨hr1.mem.turn (b':=iZ_ g l cl seen) hk1 hgb (pP_ ⟨e',he',r,hβk,?_⟩ fun n hn=>?_),DenAs.mono hkp _ _ (fun _ _=>rfl) hr1.sl,hr1.dn,hr1.fx⟩ o.dst ?_
   ·rw[hee];exact hnew
   ·rw[hβk] at hn
    rw[Aa_ hn]
    exact (Array.getElem?_eq_some_iff.1 hnew).1
   ·exact⟨[_,_,_],rfl,_,_,rfl,DenA_v.2 rfl,_,_,rfl,aX_ _ _ _ _,_,_,rfl,aX_ _ _ _ _,rfl⟩
theorem jm_ {it:Operand} (ho:o.op=.next it false) {k j:Nat} (hi:S.ev it=.ptr k 0) {g:Nat} {l:List Ent3} {cl:Nat} {seen:Array Nat} (hk:getB S.bx k=some (ItAt g cl seen)) (hb:getB S.bx j=some (MapAt g l cl)) (hl:lq_ l cl) (hne:left3 l seen=[]) :
  LCore P dn pn o S ⟨.tup [.d (.v (.bool false))],[],[],[]⟩ [k,j]:=by
 intro S1 hs _
 have ei:=hs.1 it (by simp[ho,Op.operands])
 rw[← ei] at hi
 have hk1:=(hs.2.2 k (by simp)).trans hk
 have hb1:=(hs.2.2 j (by simp)).trans hb
 refine Core.value fun w0 I0 F I β a w hr=>?_
 obtain⟨hβ,es,hg,h2,hv⟩:=h5_ (hr.mem.bxs j _ hb1)
 obtain⟨r,hβk,hr0⟩:=tj_ (hr.mem.bxs k _ hk1)
 have hiv:=hr.ev it
 rw[hi] at hiv
 obtain⟨b,e1,e2⟩:=hiv
 rw[hβk] at e1
 cases e1
 have b1:es.toList.map (·.born)=l.map (·.born):=by
  have:=congrArg (List.map Prod.snd) h2
  simpa [List.map_map,Function.comp_def] using this
 have hold:∀ x∈es.toList,x.born<cl:=fun x hx=>by
  have:x.born∈l.map (·.born):=by rw[← b1];exact List.mem_map.2 ⟨x,hx,rfl⟩
  obtain⟨e,he,e3⟩:=List.mem_map.1 this
  rw[← e3];exact hl.1 e he
 have hlo:=th_ h2 seen
 rcases run_next_at (P:=P) w o.type r g cl cl seen es cl hr0 hg hold (Nat.le_refl _) with⟨_,hrun⟩|⟨e,he,_⟩
 ·exact⟨.tuple #[.bool false],by simp[execOp,ho,e2,hrun],[_],rfl,_,_,rfl,DenA_v.2 rfl,rfl⟩
 ·exfalso
  have hbn:e.born∈(left3 l seen).map (·.born):=by rw[← hlo];exact List.mem_map.2 ⟨e,he,rfl⟩
  rw[hne] at hbn
  cases hbn
theorem qN_ {w:World} {I:Nat→Prop}:∀ {l:List Ent3} {es:List MapEntry},es.map (fun e=>(e.key,e.born))=l.map (fun e=>(e.key,e.born))→Dens w I (l.map (·.d)) (es.map (·.val))→∀ e∈l,∃ x∈es,x.key=e.key∧x.born=e.born∧Den w I e.d x.val
 | [],_,_,_,_,he=>by cases he
 | y::l,[],h,_,_,_=>by cases h
 | y::l,x::es,h,hd,e,he=>by
  simp only[List.map_cons,List.cons.injEq,Prod.mk.injEq] at h
  obtain⟨v,vs,e1,h1,h2⟩:=hd
  simp only[List.map_cons,List.cons.injEq] at e1
  rcases List.mem_cons.1 he with rfl|he
  ·exact⟨x,by simp,h.1.1,h.1.2,by rw[e1.1];exact h1⟩
  ·obtain⟨z,hz,h3⟩:=qN_ h.2 (by rw[e1.2];exact h2) e he
   exact⟨z,by simp[hz],h3⟩
theorem LCore.entry {it:Operand} (ho:o.op=.entry it) {k j:Nat} (hi:S.ev it=.ptr k 0) {g:Nat} {l:List Ent3} {cl:Nat} {seen:Array Nat} {e:Ent3} (hk:getB S.bx k=some (ItAt g cl (seen.push e.born))) (hb:getB S.bx j=some (MapAt g l cl)) (hl:lq_ l cl) (he:e∈l) :
  LCore P dn pn o S ⟨.tup [.d (.v e.key),.d e.d],[],[],[]⟩ [k,j]:=by
 intro S1 hs _
 have ei:=hs.1 it (by simp[ho,Op.operands])
 rw[← ei] at hi
 have hk1:=(hs.2.2 k (by simp)).trans hk
 have hb1:=(hs.2.2 j (by simp)).trans hb
 refine Core.value fun w0 I0 F I β a w hr=>?_
 obtain⟨hβ,es,hg,h2,hv⟩:=h5_ (hr.mem.bxs j _ hb1)
 obtain⟨r,hβk,hr0⟩:=tj_ (hr.mem.bxs k _ hk1)
 have hiv:=hr.ev it
 rw[hi] at hiv
 obtain⟨b,e1,e2⟩:=hiv
 rw[hβk] at e1
 cases e1
 have b1:es.toList.map (·.born)=l.map (·.born):=by
  have:=congrArg (List.map Prod.snd) h2
  simpa [List.map_map,Function.comp_def] using this
 obtain⟨x,hx,x1,x2,x3⟩:=qN_ h2 hv e he
 have hrun:=run_entry_at (P:=P) w r g cl seen es cl x (by rw[x2];exact hr0) hg hx (by rw[b1];exact hl.2.1)
 refine⟨.tuple #[x.key,x.val],by simp[execOp,ho,e2,hrun],[_,_],rfl,_,_,rfl,DenA_v.2 x1,_,_,rfl,?_,rfl⟩
 rw[DenA];exact x3
theorem ck_ {it:Operand} (ho:o.op=.next it false) {k j:Nat} (hi:S.ev it=.ptr k 0) {g:Nat} {l:List Ent3} {cl:Nat} {seen:Array Nat} (hk:getB S.bx k=some (ItAt g cl seen)) (hb:getB S.bx j=some (MapAt g l cl)) (hl:lq_ l cl) (hne:left3 l seen≠[])
  (h:rest (S.app o.dst ⟨.tup [.d (.v (.bool true)),.d .any,.d .any],[],[(k,iZ_ g l cl seen)],[]⟩) (⟨⟨.tup [.d (.v (.bool true)),.d .any,.d .any],[],[(k,iZ_ g l cl seen)],[]⟩,[k,j]⟩::acc)):vcStop P dn pn o rest S acc :=
 ⟨_,_,jn_ ho hi hk hb hl hne,trivial,h⟩
theorem cj_ {it:Operand} (ho:o.op=.next it false) {k j:Nat} (hi:S.ev it=.ptr k 0) {g:Nat} {l:List Ent3} {cl:Nat} {seen:Array Nat} (hk:getB S.bx k=some (ItAt g cl seen)) (hb:getB S.bx j=some (MapAt g l cl)) (hl:lq_ l cl) (hne:left3 l seen=[])
  (h:rest (S.put o.dst (.tup [.d (.v (.bool false))])) (⟨⟨.tup [.d (.v (.bool false))],[],[],[]⟩,[k,j]⟩::acc)):vcStop P dn pn o rest S acc :=
 ⟨_,_,jm_ ho hi hk hb hl hne,trivial,h⟩
theorem vcStop.entry {it:Operand} (ho:o.op=.entry it) {k j:Nat} (hi:S.ev it=.ptr k 0) {g:Nat} {l:List Ent3} {cl:Nat} {seen:Array Nat} {e:Ent3} (hk:getB S.bx k=some (ItAt g cl (seen.push e.born))) (hb:getB S.bx j=some (MapAt g l cl)) (hl:lq_ l cl) (he:e∈l)
  (h:rest (S.put o.dst (.tup [.d (.v e.key),.d e.d])) (⟨⟨.tup [.d (.v e.key),.d e.d],[],[],[]⟩,[k,j]⟩::acc)):vcStop P dn pn o rest S acc :=
 ⟨_,_,LCore.entry ho hi hk hb hl he,trivial,h⟩
end
end Go.Xe
namespace Go.Xe
open Go.RowKit
variable [Glob]
def FunX (P:Program) (f:FuncId) (args:List AV) (bi:Bxs) {α:Type} (res:α→AV) (bo:α→Bxs):Prop :=
 ∀ w I β vs,Mem w I (Fp bi β) bi I β w→DenAs w I β args vs→Calls P f vs.toArray w fun
  | .returned v,w'=>∃ x,∃ I' β',Mem w I (Fp bi β) (bo x) I' β' w'∧DenA w' I' β' (res x) v∧∀ k,1000≤k→β' k=β k
  | .panicked ch,w'=>False
  | .outgrown,_=>False
theorem Eq_ {P:Program} {f:FuncId} {args:List AV} {bi:Bxs} {α:Type} {res:α→AV} {bo:α→Bxs} (x:α) (h:Fun P f args bi (res x) (bo x) fun _=>False):FunX P f args bi res bo:=fun w I β vs hm hd=>by
 refine Calls.mono (h w I β vs hm hd) fun e w' he=>?_
 cases e with
 | returned v=>exact⟨x,he⟩
 | panicked ch=>exact he.1
 | outgrown=>exact he
def finX (τ:Tab) (rs:List ResultVar) {α:Type} (res:α→AV) (bo:α→Bxs) (e:Exit) (S:Kp2 (τ,rs) (res,bo)):Prop :=
 match e with
 | .normal=>∃ x,∃ S',Wk S S'∧r3_ τ rs (res x) (bo x) S'
 | .ret=>∃ x,∃ S',Wk S S'∧r3_ τ rs (res x) (bo x) S'
 | _=>False
theorem finX.ret {τ:Tab} {rs:List ResultVar} {α:Type} {res:α→AV} {bo:α→Bxs} (x:α) {S:St} (h:finQ τ rs (res x) (bo x) .ret S):finX τ rs res bo .ret S:=⟨x,h⟩
theorem cg_ {P:Program} {τ:Tab} (hτ:aq_ P τ) {f:FuncId} {fn:Func} {c:Code} (hf:P.funcs[f]? = some fn) (hb:fn.body=some c) {args:List AV} {bi:Bxs} {α:Type} {res:α→AV} {bo:α→Bxs}
  (h:∀ β0,WP P ⟨[],β0,none,false⟩ ao_ c (finX τ fn.results.toList res bo) (dO_ fn.ntmps args bi)):FunX P f args bi res bo:=by
 intro w I β vs hm hd
 refine calls_of_wp hf hb (wp_mono (wpIn_wide.1 (h β w I (Fp bi β) I β _ w ⟨hm,?_,⟨rfl,fun _=>rfl⟩,fun _ _=>rfl⟩)) fun e a' w' hh=>?_)
 ·simp only[dO_,Array.toList_append,Array.toList_replicate]
  rw[hd.length]
  have:=ch_ (w:=w) (I:=I) (β:=β) (List.replicate (fn.ntmps-vs.length) undef)
  simp only[List.length_replicate] at this
  exact hd.append (by simpa using this)
 ·have fin:(∃ S I' β',(∃ x,∃ S',Wk S S'∧r3_ τ fn.results.toList (res x) (bo x) S')∧Rel ⟨[],β,none,false⟩ w I (Fp bi β) S I' β' a' w')→a'.defers=[]∧∃ v,(results fn a'.tmps).run P w'=.ok v w'∧∃ x,∃ I' β',Mem w I (Fp bi β) (bo x) I' β' w'∧DenA w' I' β' (res x) v∧∀ k,1000≤k→β' k=β k:=by
   rintro⟨S,I1,β1,⟨x,S',hw,side,l,hl,hs,hle,hbo⟩,hr1⟩
   obtain⟨I',β',hr⟩:=hw _ _ _ _ _ _ _ _ hr1
   obtain⟨us,hus,hdu⟩:=f6_ hτ hr _ hl hs
   exact⟨hr.dn.pan rfl,_,ee_ fn a'.tmps P w' us hus,x,I',β',hr.mem.sub hbo,hle _ _ _ _ hdu.one,hr.fx⟩
  cases e with
  | normal=>exact fin hh
  | ret=>exact fin hh
  | panic ch=>exact hh.1.elim
  | exit id=>obtain⟨S,I',β',hq,_⟩:=hh;exact hq.elim
  | goto l=>obtain⟨S,I',β',hq,_⟩:=hh;exact hq.elim
  | outgrown=>exact hh.elim
def CoreE (P:Program) (ds:Dn) (pn:Pn) (o:Oper) (S:St) (R:St→Prop):Prop :=
 ∀ w0 I0 F I β a w,Rel ds w0 I0 F S I β a w→∀ (next:Act→World→Prop) (Q:Exit→Act→World→Prop),
  (∀ S' I' β' a' w',R S'→Rel ds w0 I0 F S' I' β' a' w'→next a' w') →
  (∀ ch I' β' w',pn.ok ch→PRel ds w0 I0 F pn S.bx I' β' a w'→Q (.panic ch) a w') →
  o.wpIn (fO ds.ro) 1 P a w next Q
theorem pp_ {P:Program} {ds:Dn} {pn:Pn} {o:Oper} {S:St} {fx:Operand} {args:Array Operand} {ts:Array TypeId} (ho:o.op=.call ⟨.value fx,args,ts⟩) {f:FuncId} {first caps:List AV}
  (hf:lv_ (S.ev fx)=some (f,first,caps)) (hb:Body P f) {cargs:List AV} {cbi:Bxs} {α:Type} {cres:α→AV} {cbo:α→Bxs} (hc:FunX P f cargs cbi cres cbo) (ρ:Nat→Nat)
  (hargs:LeqL (first++args.toList.map S.ev++caps) (renL ρ cargs)) (hok0:CallOk S ρ cbi [] (.d .any)) (hok:∀ x,CallOk S ρ cbi (cbo x) (cres x)) (hfresh:∀ x,∀ p∈bC_ ρ cbi (cbo x),S.has p.1=false) :
  CoreE P ds pn o S fun S'=>∃ x,S'=S.app o.dst (callE ρ cbi (cbo x) (cres x)):=by
 intro w0 I0 F I β a w hr next Q hn hp
 obtain⟨va,vb,e1,hda,hdb⟩:=k1_ hf (hr.ev fx)
 have hrun:=pD_ (P:=P) (w:=w) ho hb e1
 have hdargs:DenAs w I β (renL ρ cargs) (va++args.toList.map a.eval++vb):=hargs.ok ((hda.append (c9_ hr _)).append hdb)
 rw[aC_] at hdargs
 have hcall:=hc w I (fun k=>β (ρ k)) _ (hr.handed hok0) hdargs
 refine⟨fun _ _=>trivial,?_⟩
 rw[Oper.semAt_eq _ _ _ (fun c h=>by rw[ho] at h;cases h),hrun,Oper.uponIn_enter]
 refine⟨(fun h=>by cases h),callsIn_fO (hcall.mono fun e w' he=>?_)⟩
 cases e with
 | outgrown=>exact he.elim
 | panicked ch=>exact he.elim
 | returned v =>
  obtain⟨x,I',β',hm,hres,hfx⟩:=he
  obtain⟨β2,h2⟩:=hr.called (hok x) (hfresh x) hm hres hfx o.dst
  exact hn _ I' β2 _ w' ⟨x,rfl⟩ h2
def vcX (P:Program) (ds:Dn) (pn:Pn) (o:Oper) (rest:St→Prop) (S:Kp2 (P,ds,o) (rest,pn)):Prop:=∃ R,CoreE P ds pn o S R∧∀ S2,R S2→rest S2
theorem fg_ {P:Program} {ds:Dn} {pn:Pn} {o:Oper} {rest:St→Prop} {S:St} {fx:Operand} {args:Array Operand} {ts:Array TypeId} {f:FuncId} {first caps:List AV} {cargs:List AV} {cbi:Bxs} {α:Type} {cres:α→AV} {cbo:α→Bxs}
  (hb:Body P f) (hc:FunX P f cargs cbi cres cbo) (ρ:Nat→Nat) (ho:o.op=.call ⟨.value fx,args,ts⟩) (hf:lv_ (S.ev fx)=some (f,first,caps))
  (hargs:LeqL (first++args.toList.map S.ev++caps) (renL ρ cargs)) (hok0:CallOk S ρ cbi [] (.d .any)) (hok:∀ x,CallOk S ρ cbi (cbo x) (cres x)) (hfresh:∀ x,bm_ S (bC_ ρ cbi (cbo x)))
  (h:∀ x,∃ S2,Wk (S.app o.dst (callE ρ cbi (cbo x) (cres x))) S2∧rest S2):vcX P ds pn o rest S :=
 ⟨fun S2=>∃ x,Wk (S.app o.dst (callE ρ cbi (cbo x) (cres x))) S2∧rest S2,fun w0 I0 F I β a w hr next Q hn hp=>pp_ ho hf hb hc ρ hargs hok0 hok (fun x=>(bj_ _).1 (hfresh x)) w0 I0 F I β a w hr next Q (fun S' I' β' a' w' ⟨x,e⟩ hr'=>by
  subst e
  obtain⟨S2,h1,h2⟩:=h x
  obtain⟨I2,β2,h3⟩:=h1 _ _ _ _ _ _ _ _ hr'
  exact hn S2 I2 β2 a' w' ⟨x,h1,h2⟩ h3) hp,fun _ ⟨_,_,h2⟩=>h2⟩
theorem zp_ {P:Program} {ds:Dn} {pn:Pn} {o:Oper} {rest:St→Prop} {S:St} {e:Eff} {fp:List Nat} (hl:LCore P ds pn o S e fp) (hf:bm_ S e.add) {α:Type} {S':α→St} (ho:Opn (S.app o.dst e) S') (h:∀ x,rest (S' x)):vcX P ds pn o rest S :=
 ⟨fun S2=>∃ x,S2=S' x,fun w0 I0 F I β a w hr next Q hn hp=>hl S ⟨fun _ _=>rfl,fun _ _=>rfl,fun _ _=>rfl⟩ ((bj_ _).1 hf) w0 I0 F I β a w hr next Q (fun I' β' a' w' hr'=>by
  obtain⟨x,I2,β2,h2⟩:=ho _ _ _ _ _ _ _ _ hr'
  exact hn (S' x) I2 β2 a' w' ⟨x,rfl⟩ h2) hp,fun _ ⟨x,e⟩=>e▸h x⟩
theorem vcX.op {P:Program} {τ:Tab} (hτ:aq_ P τ) {ds:Dn} {pn:Pn} {o:Oper} {rest:St→Prop} {S:St} {side:Prop} {e:Eff} {fp:List Nat} (hr:opA τ o S=some (side,e,fp)) (hs:side) (hf:bm_ S e.add) {α:Type} {S':α→St} (ho:Opn (S.app o.dst e) S') (h:∀ x,rest (S' x)):vcX P ds pn o rest S :=
 zp_ (f3_ hτ o ds pn S side e fp hr hs) hf ho h
theorem fc_ {P:Program} {ds:Dn} {pn:Pn} {ops:Array Oper} {Q:Exit→Act→World→Prop} {w0:World} {I0 F:Nat→Prop} {K:List TI→St→Prop} (rest:List Oper)
  (hQ:∀ ch a w,pn.ok ch→(∃ bx I β,PRel ds w0 I0 F pn bx I β a w)→Q (.panic ch) a w) :
  ∀ (os:List Oper) (S:St) (acc:List TI) (I:Nat→Prop) (β:Nat→Value) (a:Act) (w:World),RunD P ds pn (ops.toList.map (·.dst)) os S acc K→Rel ds w0 I0 F S I β a w →
   (∀ tis S' I' β' a' w',K tis S'→Rel ds w0 I0 F S' I' β' a' w'→wpListIn (fO ds.ro) 1 P ops Q rest a' w')→wpListIn (fO ds.ro) 1 P ops Q (os++rest) a w
 | [],S,acc,I,β,a,w,h,hr,hK=>hK _ _ _ _ _ _ h hr
 | o::os,S,acc,I,β,a,w,h,hr,hK=>by
  obtain⟨e,fp,hl,hf,hrest⟩:=h
  refine wpListIn_step fun K' hK'=>?_
  rw[cX_]
  have hg:=hl S ⟨fun _ _=>rfl,fun _ _=>rfl,fun _ _=>rfl⟩ (fun _ _=>rfl) hf w0 I0 F I β a w hr K' Q (fun I' β' a' w' hr'=>hK' a' w' (fc_ rest hQ os _ _ I' β' a' w' hrest hr' hK)) (fun ch I' β' w' hok hp=>hQ ch a w' hok ⟨_,_,_,hp⟩)
  split
  ·rename_i hw;rw[if_pos hw] at hg;exact hg
  ·rename_i hw;rw[if_neg hw] at hg;exact⟨fun _ _=>trivial,hg⟩
theorem AS_ {P:Program} {ds:Dn} {pn:Pn} {Q:Exit→St→Prop} {S:St} (n:Nat) {τ:Tab} (hτ:aq_ P τ) {id:Nat} {l:List Oper} {o:Oper} (ho:l[n]? = some o) (hg:o.guard=none)
  (h:vcOps P ds pn τ (l.map (·.dst)) (fun _ S1=>vcX P ds pn o (fun S2=>vcOps P ds pn τ (l.map (·.dst)) (fun _ S'=>Q .normal S') (l.drop (n+1)) S2 []) S1) (l.take n) S []):WP P ds pn (.region id l.toArray false) Q S:=fun w0 I0 F I β a w hr=>by
 have hsplit:l=l.take n++o::l.drop (n+1):=by
  obtain⟨hn,he⟩:=List.getElem?_eq_some_iff.1 ho
  rw[← he,← List.drop_eq_getElem_cons hn,List.take_append_drop]
 have hQ:∀ (ch:List PanicEntry) (a:Act) (w:World),pn.ok ch→(∃ bx I β,PRel ds w0 I0 F pn bx I β a w)→jh_ P ds pn w0 I0 F Q (.panic ch) a w:=fun ch a w hok hp=>⟨hok,hp⟩
 refine wpIn_region_list ?_
 have key:wpListIn (fO ds.ro) 1 P l.toArray (jh_ P ds pn w0 I0 F Q) (l.take n++o::l.drop (n+1)) a w:=by
  refine fc_ (ops:=l.toArray) (o::l.drop (n+1)) hQ (l.take n) S [] I β a w (by simpa using vcOps.run hτ (l.take n) S [] h) hr ?_
  rintro _ S1 I1 β1 a1 w1 ⟨R,hc,hR⟩ hr1
  refine wpListIn_step fun K' hK'=>?_
  rw[cX_]
  have hw:cT_ (l.toArray.toList.map (·.dst)) o a1.tmps=true:=by simp[cT_,hg]
  rw[if_pos hw]
  refine hc w0 I0 F I1 β1 a1 w1 hr1 _ _ (fun S2 I2 β2 a2 w2 h2 hr2=>hK' a2 w2 ?_) (fun ch I' β' w' hok hp=>hQ ch a1 w' hok ⟨_,_,_,hp⟩)
  exact c7_ (ops:=l.toArray) (K:=fun _ S'=>Q .normal S') hQ (l.drop (n+1)) S2 [] I2 β2 a2 w2 (by simpa using vcOps.run hτ (l.drop (n+1)) S2 [] (hR S2 h2)) hr2
   fun _ S' I' β' a' w' hq hr'=>⟨S',I',β',hq,hr'⟩
 rw[← hsplit] at key
 simpa using key
def wpL (P:Program) (ds:Dn) (pn:Pn) (ops:Array Oper) (l:List Oper) (Q:Exit→St→Prop) (S:Kp2 (P,ds,pn) (ops,l,Q)):Prop :=
 ∀ w0 I0 F I β a w,Rel ds w0 I0 F S I β a w→wpListIn (fO ds.ro) 1 P ops (jh_ P ds pn w0 I0 F Q) l a w
theorem Dw_ {P:Program} {ds:Dn} {pn:Pn} {τ:Tab} (hτ:aq_ P τ) {ops:Array Oper} {l:List Oper} {Q:Exit→St→Prop} {S:St} (h:vcOps P ds pn τ (ops.toList.map (·.dst)) (fun _ S'=>Q .normal S') l S []):wpL P ds pn ops l Q S:=fun w0 I0 F I β a w hr =>
 c7_ (ops:=ops) (K:=fun _ S'=>Q .normal S') (fun ch a w hok hp=>⟨hok,hp⟩) l S [] I β a w (vcOps.run hτ l S [] h) hr fun _ S' I' β' a' w' hq hr'=>⟨S',I',β',hq,hr'⟩
theorem Ce_ {P:Program} {ds:Dn} {pn:Pn} {ops:Array Oper} {l:List Oper} {Q:Exit→St→Prop} {S S':St} (hw:Wk S S') (h:wpL P ds pn ops l Q S'):wpL P ds pn ops l Q S:=fun w0 I0 F I β a w hr=>by
 obtain⟨I',β',hr'⟩:=hw _ _ _ _ _ _ _ _ hr
 exact h w0 I0 F I' β' a w hr'
/-! ### a pointer against nil -/
end Go.Xe
namespace Go.Xe
open Go.RowKit
variable [Glob]
def ww_ (P:Program) (gf:FuncId) (caps:List AV) (cb:Bxs) {σ:Type} (s0:σ) (R:σ→List D→σ→Prop) (E:σ→Prop):Prop :=
 ∀ (l:Nat) (B:σ→Value→World→(Nat→Prop)→Prop),(∀ s x s',R s x s'→YieldOk P l x (B s) (B s') true) →
  FunX P gf (.d (.v (.func (.yield l) #[] #[]))::caps) (cb++[(1999,.opq (B s0))]) (α:={s // E s}) (fun _=>.tup []) (fun s=>cb++[(0,.opq (B s.1))])
theorem lh_ {P:Program} {ds:Dn} {pn:Pn} {Q:Exit→St→Prop} {S:St} {g:Operand} {ps:Array Tmp} {assign body:Code} {gf:FuncId} {caps:List AV} {cb:Bxs} {ccaps:List AV} {σ:Type} {s0:σ} {R:σ→List D→σ→Prop} {E:σ→Prop}
  (hb:Body P gf) (hit:ww_ P gf ccaps cb s0 R E) (bs:σ→Bxs) (sl0:List AV) (kD:Nat) (ρ:Nat→Nat) (hro:ds.ro=none) (hrf:ds.rf=true) (hg:lv_ (S.ev g)=some (gf,[],caps))
  (hcaps:LeqL caps (renL ρ ccaps)) (hsl:LeqL S.sl (renL ρ sl0)) (htg:∀ t,al_ t sl0=true→1000≤t) (hs:∀ s,a9_ (bs s))
  (hok0:CallOk S ρ (cb++bs s0) [] (.tup [])) (hok:∀ G s,E s→CallOk S ρ (cb++bs s0) (cb++(bs s++[(kD,.obj G (.deferred (some [])))])) (.tup []))
  (hcb:∀ k,isIn cb k=true→k≠1999∧isIn (bs s0) k=false∧∀ s,E s→isIn (bs s) k=false)
  (hcbt:∀ k b,getB cb k=some b→∀ t,al_ t b.cs=true→isIn cb t=true) (hbt:∀ s,E s→∀ k b,getB (bs s) k=some b→∀ t,al_ t b.cs=true→isIn (bs s) t=true)
  (hct:∀ t,al_ t ccaps=true→isIn cb t=true) (hkD:kD<1000) (hkb:∀ s,E s→isIn (bs s) kD=false)
  (hx:∀ s x s',R s x s'→x.length=ps.size)
  (hfr:∀ G s,E s→bm_ S (bC_ ρ (cb++bs s0) (cb++(bs s++[(kD,.obj G (.deferred (some [])))]))))
  (round:∀ s x s',R s x s'→∀ l β0,WP P ⟨[],β0,some l,false⟩ ao_ assign (asQ P ⟨[],β0,some l,false⟩ ao_ body (rdQ none (bs s'))) ⟨setP sl0 ps.toList (x.map .d),bs s,[]⟩)
  (hend:∀ G s,E s→Q .normal ⟨(S.app none (callE ρ (cb++bs s0) (cb++(bs s++[(kD,.obj G (.deferred (some [])))])) (.tup []))).sl,(S.app none (callE ρ (cb++bs s0) (cb++(bs s++[(kD,.obj G (.deferred (some [])))])) (.tup []))).bx,G::S.df⟩) :
  WP P ds pn (.rangeFunc g ps assign body) Q S:=by
 intro w0 I0 F I β a w hr
 rw[hro]
 refine wpIn_rangeFunc (F:=fO none) (n:=1) fun fn hfn=>?_
 obtain⟨va,vb,hge,hda,hdb⟩:=k1_ hg (hr.ev g)
 rw[DenAs] at hda
 subst hda
 obtain⟨G,hG⟩:∃ G,w.heap.size=G:=⟨_,rfl⟩
 obtain⟨L,hL⟩:∃ L,w.heap.size+1=L:=⟨_,rfl⟩
 obtain⟨rec,hrec⟩:∃ rec:Loop,rec={ state:=.ready,pending:=none,fn,tmps:=a.tmps,params:=ps,assign,body,defers:=w.heap.size }:=⟨_,rfl⟩
 obtain⟨W1,hW1⟩:∃ W1,(w.alloc (.deferred (some []))).alloc (.loop rec)=W1:=⟨_,rfl⟩
 have hG1:W1.heap[G]? = some (.deferred (some [])):=by
  rw[← hW1,← hG];exact (c5_ _ _ _ (by rw[World.size_alloc];omega)).trans (World.alloc_heap_new w _)
 have hL1:W1.heap[L]? = some (.loop rec):=by
  rw[← hW1,← hL];have:=World.alloc_heap_new (w.alloc (.deferred (some []))) (.loop rec);rwa[World.size_alloc] at this
 obtain⟨βr,hβr⟩:∃ βr:Nat→Value,(fun k=>β (ρ k))=βr:=⟨_,rfl⟩
 have hbr:∀ k,βr k=β (ρ k):=fun k=>by rw[← hβr]
 have h0:=hr.handed hok0
 rw[hβr] at h0
 have h2:Mem w I (Fp (cb++bs s0) βr) (cb++bs s0) I βr W1:=by
  rw[← hW1]
  exact (h0.world (Gb.alloc w _ none) (r:=none) (by simp) fun k b h=>⟨h,.inl rfl⟩).world (Gb.alloc _ _ none) (r:=none) (by simp) fun k b h=>⟨h,.inl rfl⟩
 have hk01:Kept w I W1 I:=h2.kept
 have hcbl:∀ k,isIn cb k=true→1000≤k:=fun k h=>by
  obtain⟨b,hkb⟩:=cJ_ h
  exact hok0.low (k,b) (List.mem_append_left _ (at_ hkb))
 have hc0:∀ k b,getB cb k=some b→getB (cb++bs s0) k=some b:=fun k b h=>by rw[au_,if_pos (cs_ h)];exact h
 have hb0:∀ k b,getB (bs s0) k=some b→getB (cb++bs s0) k=some b:=fun k b h=>by
  rw[au_,if_neg];exact h
  intro hk;have:=(hcb k hk).2.1;rw[cs_ h] at this;cases this
 have hlt0:∀ k b n,getB (cb++bs s0) k=some b→Blk (βr k) n→n<G:=fun k b n hk hn=>by rw[← hG];exact (h0.bxs k b hk).lt hn
 have hpk:Pack βr G L sl0 (bs s0) rec (cL_ βr (bs s0) G L) W1 I βr :=
  ⟨fun _ _=>rfl,rfl,fun k b h=>h2.bxs k b (hb0 k b h),fun k j b c n h1 h3=>h2.inj k j b c n (hb0 k b h1) (hb0 j c h3),fun k b n h hn=>by have:=hlt0 k b n (hb0 k b h) hn;omega,by omega,hG1,hL1,by
   have h:=hsl.ok hr.sl
   rw[aC_,hβr] at h
   rw[hrec]
   exact DenAs.mono hk01 _ _ (fun _ _=>rfl) h⟩
 have hs0:=hs s0
 have h1999:isIn cb 1999=false:=by cases h:isIn cb 1999 with|false=>rfl|true=>exact absurd rfl (hcb _ h).1
 have h0c:isIn cb 0=false:=by cases h:isIn cb 0 with|false=>rfl|true=>have:=hcbl _ h;omega
 have hI:Mem w I (Fp (cb++bs s0) βr) (cb++[(1999,.opq (bQ_ βr G L sl0 (bs s0) rec))]) I (upd βr 1999 (cL_ βr (bs s0) G L)) W1:=by
  have hc:Mem w I (Fp (cb++bs s0) βr) cb I βr W1:=h2.sub hc0
  have hf:∀ (bx:Bxs),(∀ k b,getB bx k=some b→True)→True:=fun _ _=>trivial
  refine⟨fun k b h=>?_,fun k b n h hn=>?_,fun k j b c n h h' hn hn'=>?_,h2.im,h2.inew,h2.kept,h2.fr,h2.sz,h2.os,h2.tape,h2.out,h2.dr,h2.gl⟩
  ·rw[au_] at h
   split at h
   ·rename_i hk
    rw[upd_other _ _ (hcb k hk).1]
    exact (hc.bxs k b h).mono (.refl _ _) (fun t ht=>upd_other _ _ (hcb t (hcbt k b h t ht)).1) (fun _ _=>rfl)
   ·simp only[getB] at h
    split at h
    ·rename_i e;subst e;cases h;rw[upd_same];exact hpk.box hs0
    ·cases h
  ·rw[au_] at h
   split at h
   ·rename_i hk
    rw[upd_other _ _ (hcb k hk).1] at hn
    exact hc.sep k b n h hn
   ·simp only[getB] at h
    split at h
    ·rename_i e;subst e;rw[upd_same] at hn
     rcases (hpk.blk hs0 n).1 hn with⟨j,c,hj,hn⟩|rfl|rfl
     ·exact h2.sep j c n (hb0 j c hj) hn
     ·exact⟨fun h=>by have:=h0.im _ h;omega,.inr (by omega)⟩
     ·exact⟨fun h=>by have:=h0.im _ h;omega,.inr (by omega)⟩
    ·cases h
  ·have far:∀ j c,getB cb j=some c→Blk (βr j) n→¬ Blk (cL_ βr (bs s0) G L) n:=fun j c hj hjn hy=>by
    rcases (hpk.blk hs0 n).1 hy with⟨i,d,hi,hin⟩|rfl|rfl
    ·have:=h2.inj j i c d n (hc0 j c hj) (hb0 i d hi) hjn hin
     subst this
     have:=(hcb j (cs_ hj)).2.1;rw[cs_ hi] at this;cases this
    ·have:=hlt0 j c _ (hc0 j c hj) hjn;omega
    ·have:=hlt0 j c _ (hc0 j c hj) hjn;omega
   rw[au_] at h h'
   split at h<;>split at h'
   ·rename_i hk hk'
    rw[upd_other _ _ (hcb k hk).1] at hn
    rw[upd_other _ _ (hcb j hk').1] at hn'
    exact hc.inj k j b c n h h' hn hn'
   ·rename_i hk hk'
    simp only[getB] at h'
    split at h'
    ·rename_i e;subst e
     rw[upd_same] at hn'
     rw[upd_other _ _ (hcb k hk).1] at hn
     exact absurd hn' (far k b h hn)
    ·cases h'
   ·rename_i hk hk'
    simp only[getB] at h
    split at h
    ·rename_i e;subst e
     rw[upd_same] at hn
     rw[upd_other _ _ (hcb j hk').1] at hn'
     exact absurd hn (far j c h' hn')
    ·cases h
   ·simp only[getB] at h h'
    split at h
    ·split at h'
     ·omega
     ·cases h'
    ·cases h
 have hargs:DenAs W1 I (upd βr 1999 (cL_ βr (bs s0) G L)) (.d (.v (.func (.yield L) #[] #[]))::ccaps) (.func (.yield L) #[] #[]::vb):=by
  refine⟨_,_,rfl,by rw[DenA_v],?_⟩
  have h:=hcaps.ok hdb
  rw[aC_,hβr] at h
  exact DenAs.mono hk01 _ _ (fun t ht=>upd_other _ _ (hcb t (hct t ht)).1) h
 have hcall:=hit L (fun s=>bQ_ βr G L sl0 (bs s) rec) (fun s x s' hR=>by
  have hst:rec.state=.ready:=by rw[hrec]
  have hpsz:x.length=rec.params.size:=by rw[hx s x s' hR,hrec]
  have hw:=round s x s' hR L βr
  have hrr:({ rec with state:=if (none:Option Code).isNone then .ready else .done,pending:=(none:Option Code) }:Loop)=rec:=by rw[hrec];rfl
  have:=dI_ (D:=G) (L:=L) (β0:=βr) (sl0:=sl0) (bx:=bs s) (bx':=bs s') (rec:=rec) (jump:=none) hst hpsz htg (hs s) (hs s')
   (by rw[hrec];exact hw)
  rw[hrr] at this
  exact this)
 have hIf:Mem w I (Fp (cb++bs s0) βr) (cb++[(1999,.opq (bQ_ βr G L sl0 (bs s0) rec))]) I (upd βr 1999 (cL_ βr (bs s0) G L)) W1:=hI
 refine⟨L,[fD_ G],W1,{ target:=.fn (.func gf) vb.toArray,args := #[.func (.yield L) #[] #[]] },W1,gf,(.func (.yield L) #[] #[]::vb).toArray,W1,?_,?_,fun _ _=>trivial,?_,(fun h=>by cases h),?_⟩
 ·rw[← hW1,← hL,← hG,hrec];exact run_enterLoop_outer _ _ _ _ _
 ·simp only[resolve,hge]
  simp[go_sem]
 ·have:=run_enterFn hb (#[.func (.yield L) #[] #[]]++vb.toArray) W1
  have e:(#[.func (.yield L) #[] #[]]++vb.toArray:Array Value)=(.func (.yield L) #[] #[]::vb).toArray:=by apply Array.ext';simp
  rw[e] at this
  simp only[invoke]
  rw[e];exact this
 ·refine callsIn_fO ((hcall W1 I _ _ (hIf.start fun _ _ h=>h) hargs).mono fun e w3 he=>?_)
  cases e with
  | outgrown=>exact he.elim
  | panicked ch=>exact he.elim
  | returned v =>
   obtain⟨⟨s,hE⟩,I',β',hm,_,hfx⟩:=he
   have hA:Mem w I (Fp (cb++bs s0) βr) (cb++[(0,.opq (bQ_ βr G L sl0 (bs s) (rec)))]) I' β' w3:=hIf.after (fun _ _ h=>h) hm
   have hA0:getB (cb++[(0,.opq (bQ_ βr G L sl0 (bs s) (rec)))]) 0=some (.opq (bQ_ βr G L sl0 (bs s) (rec))):=by rw[au_,if_neg (by rw[h0c];simp)];rfl
   have hsm:=hs s
   obtain⟨γ,hp⟩:=iV_ (hA.bxs 0 _ hA0) hsm
   have hLb:Blk (β' 0) L:=(hp.blk hsm L).2 (.inr (.inr rfl))
   have hU:=hA.unpack hsm hp (fun k hk=>(hcb k hk).2.2 s hE) hcbl hcbt (hbt s hE) hkD (hkb s hE)
   obtain⟨β3,hβ3⟩:∃ β3:Nat→Value,(fun k=>if isIn cb k=true then β' k else if isIn (bs s) k=true then γ k else if k=kD then .pointer (some ⟨G,0,none⟩) else βr k)=β3:=⟨_,rfl⟩
   rw[hβ3] at hU
   have hend4:=run_endLoop (P:=P) hp.hL (by rw[hrec];simp)
   obtain⟨w4,hw4⟩:∃ w4,w3.putObj L (.loop { rec with state:=.exhausted })=w4:=⟨_,rfl⟩
   have hg4:Gb w3 w4 (some L):=by rw[← hw4];exact⟨grownBy_putObj' w3 L _,Nat.le_refl _⟩
   have hLs:=hA.sep 0 _ L hA0 hLb
   have hkc:isIn cb kD=false:=by cases h2:isIn cb kD with|false=>rfl|true=>have:=hcbl _ h2;omega
   have hmF:Mem w I (Fp (cb++bs s0) βr) (cb++(bs s++[(kD,.obj G (.deferred (some [])))])) I' β3 w4:=by
    refine hU.world hg4 (fun n e=>by cases e;exact hLs) fun k b hk=>⟨hk,.inr fun n e hn=>?_⟩
    cases e
    have hk':=hk
    rw[au_] at hk'
    split at hk'
    ·rename_i h1
     have e1:β3 k=β' k:=(congrFun hβ3.symm k).trans (if_pos h1)
     rw[e1] at hn
     have:=hA.inj k 0 b _ L (by rw[au_,if_pos h1];exact hk') hA0 hn hLb
     subst this
     rw[h0c] at h1;cases h1
    ·rename_i h1
     rw[au_] at hk'
     split at hk'
     ·rename_i h3
      have e1:β3 k=γ k:=(congrFun hβ3.symm k).trans ((if_neg h1).trans (if_pos h3))
      rw[e1] at hn
      exact (hp.ap k b L hk' hn).2 rfl
     ·rename_i h3
      simp only[getB] at hk'
      split at hk'
      ·rename_i e;subst e
       have e1:β3 kD=.pointer (some ⟨G,0,none⟩):=(congrFun hβ3.symm kD).trans ((if_neg h1).trans ((if_neg h3).trans (if_pos rfl)))
       rw[e1] at hn
       exact hp.ne (hn.one rfl).symm
      ·cases hk'
   have hfx3:∀ k,1000≤k→β3 k=β (ρ k):=fun k hk=>by
    rw[← hbr,← hβ3]
    show (if isIn cb k=true then _ else _)=_
    split
    ·rename_i h1;rw[hfx k hk,upd_other _ _ (hcb k h1).1]
    ·split
     ·exact hp.fx k hk
     ·rw[if_neg (by omega)]
   rw[← hβr] at hmF
   obtain⟨β2,hr2⟩:=hr.called (hok G s hE) ((bj_ _).1 (hfr G s hE)) hmF (v:=.tuple #[]) ⟨[],rfl,rfl⟩ hfx3 none
   have hr3:Rel ds w0 I0 F ⟨(S.app none (callE ρ (cb++bs s0) (cb++(bs s++[(kD,.obj G (.deferred (some [])))])) (.tup []))).sl,(S.app none (callE ρ (cb++bs s0) (cb++(bs s++[(kD,.obj G (.deferred (some [])))])) (.tup []))).bx,G::S.df⟩ I' β2
     { a with defers:=[fD_ G]++a.defers } w4:=⟨hr2.mem,hr2.sl,⟨by show fD_ G::a.defers=_;rw[hr.dn.1];rfl,fun h=>by rw[hrf] at h;cases h⟩,hr2.fx⟩
   refine⟨_,w4,by rw[← hw4];exact hend4,?_⟩
   have hpe:rec.pending=none:=by rw[hrec]
   rw[hpe]
   exact⟨_,I',β2,hend G s hE,hr3⟩
theorem eG_ {P:Program} {ds:Dn} {pn:Pn} {Q:Exit→St→Prop} {S:St} {g:Operand} {ps:Array Tmp} {assign body:Code} {gf:FuncId} {caps:List AV} {cb:Bxs} {ccaps:List AV} {σ:Type} {s0:σ} {R:σ→List D→σ→Prop} {E:σ→Prop}
  (hb:Body P gf) (hit:ww_ P gf ccaps cb s0 R E) (bs:σ→Bxs) (sl0:List AV) (kD:Nat) (ρ:Nat→Nat) (hro:ds.ro=none) (hrf:ds.rf=true) (hg:lv_ (S.ev g)=some (gf,[],caps))
  (hcaps:LeqL caps (renL ρ ccaps)) (hsl:LeqL S.sl (renL ρ sl0)) (htg:∀ t∈ap_ sl0,1000≤t) (hs:∀ s,a9_ (bs s))
  (hcb:∀ p∈cb,p.1≠1999∧isIn (bs s0) p.1=false∧∀ s,E s→isIn (bs s) p.1=false)
  (hcbt:∀ p∈cb,∀ t∈ap_ p.2.cs,isIn cb t=true) (hbt:∀ s,E s→∀ p∈bs s,∀ t∈ap_ p.2.cs,isIn (bs s) t=true)
  (hct:∀ t∈ap_ ccaps,isIn cb t=true) (hkD:kD<1000) (hkb:∀ s,E s→isIn (bs s) kD=false)
  (hx:∀ s x s',R s x s'→x.length=ps.size)
  (round:∀ s x s',R s x s'→∀ l β0,WP P ⟨[],β0,some l,false⟩ ao_ assign (asQ P ⟨[],β0,some l,false⟩ ao_ body (rdQ none (bs s'))) ⟨setP sl0 ps.toList (x.map .d),bs s,[]⟩)
  (hok0:CallOk S ρ (cb++bs s0) [] (.tup [])) (hok:∀ G s,E s→CallOk S ρ (cb++bs s0) (cb++(bs s++[(kD,.obj G (.deferred (some [])))])) (.tup []))
  (hfr:∀ G s,E s→bm_ S (bC_ ρ (cb++bs s0) (cb++(bs s++[(kD,.obj G (.deferred (some [])))]))))
  (hend:∀ G s,E s→Q .normal ⟨(S.app none (callE ρ (cb++bs s0) (cb++(bs s++[(kD,.obj G (.deferred (some [])))])) (.tup []))).sl,(S.app none (callE ρ (cb++bs s0) (cb++(bs s++[(kD,.obj G (.deferred (some [])))])) (.tup []))).bx,G::S.df⟩) :
  WP P ds pn (.rangeFunc g ps assign body) Q S :=
 lh_ hb hit bs sl0 kD ρ hro hrf hg hcaps hsl (fun t ht=>htg t (bD_ ht)) hs hok0 hok
  (fun k hk=>by obtain⟨b,h⟩:=cJ_ hk;exact hcb (k,b) (at_ h))
  (fun k b h t ht=>hcbt (k,b) (at_ h) t (bD_ ht)) (fun s hE k b h t ht=>hbt s hE (k,b) (at_ h) t (bD_ ht)) (fun t ht=>hct t (bD_ ht)) hkD hkb hx hfr round hend
end Go.Xe
namespace Go.Xe
open Go.RowKit
variable [Glob]
theorem xi_ {P:Program} {ds:Dn} {pn:Pn} {o:Oper} {rest:St→Prop} {S:St} {e:Eff} {fp:List Nat} (hl:LCore P ds pn o S e fp) (hf:bm_ S e.add) (h:rest (S.app o.dst e)):vcX P ds pn o rest S :=
 ⟨fun S2=>S2=S.app o.dst e,fun w0 I0 F I β a w hr next Q hn hp=>hl S ⟨fun _ _=>rfl,fun _ _=>rfl,fun _ _=>rfl⟩ ((bj_ _).1 hf) w0 I0 F I β a w hr next Q (fun I' β' a' w' hr'=>hn _ I' β' a' w' rfl hr') hp,fun _ e=>e▸h⟩
theorem vcX.yield {P:Program} {ds:Dn} {pn:Pn} {o:Oper} {S:St} {rest:St→Prop} {fx:Operand} {args:Array Operand} {ts:Array TypeId} {l:Nat} {xs:List D}
  {p p':Value→World→(Nat→Prop)→Prop} {b:Bool} (hy:YieldOk P l xs p p' b) (k k':Nat) (ho:o.op=.call ⟨.value fx,args,ts⟩) (hf:S.ev fx=.d (.v (.func (.yield l) #[] #[])))
  (hargs:(args.toList.map S.ev).map norm=xs.map .d) (hk:getB S.bx k=some (.opq p)) (hne:k≠k') (hfr:S.has k'=false)
  (h:rest (S.app o.dst ⟨.d (.v (.bool b)),[k],[],[(k',.opq p')]⟩)):vcX P ds pn o rest S:=by
 obtain⟨e,fp,h1,h2,h3⟩:=vcStop.yield (ds:=ds) (pn:=pn) (acc:=[]) (rest:=fun S2 _=>rest S2) hy k k' ho hf hargs hk hne hfr h
 exact xi_ h1 h2 h3
def vcXG (P:Program) (ds:Dn) (pn:Pn) (G:List (Option Tmp)) (o:Oper) (rest:St→Prop) (S:Kp2 (P,ds,o) (rest,pn)):Prop :=
 match o.guard with
 | none=>False
 | some (j,want)=>∃ g,((gL G j).bind fun t=>g9_ want (S.at t))=some g∧(g=true→vcX P ds pn o rest (S.under true))∧(g=false→∃ v,rest (S.put o.dst (.when false v)))
theorem vcXG.mk {P:Program} {ds:Dn} {pn:Pn} {G:List (Option Tmp)} {o:Oper} {rest:St→Prop} {S:St} {j:Nat} {want:Bool} (hg:o.guard=some (j,want)) (g:Bool) (hb:((gL G j).bind fun t=>g9_ want (S.at t))=some g)
  (ht:g=true→vcX P ds pn o rest (S.under true)) (hf:g=false→∃ v,rest (S.put o.dst (.when false v))):vcXG P ds pn G o rest S:=by
 unfold vcXG
 rw[hg]
 exact⟨g,hb,ht,hf⟩
theorem r8_ {P:Program} {dn:Dn} {w0:World} {I0 F:Nat→Prop} {S:St} {I:Nat→Prop} {β:Nat→Value} {a:Act} {w:World} (hr:Rel dn w0 I0 F S I β a w) {G:List (Option Tmp)} {o:Oper} {j:Nat} {want g:Bool} (hg:o.guard=some (j,want))
  (hb:((gL G j).bind fun t=>g9_ want (S.at t))=some g):cT_ G o a.tmps=true↔g=true:=by
 rw[yl_] at hb
 cases hj:(G[j]?).bind id with
 | none=>rw[hj] at hb;cases hb
 | some t =>
  rw[hj,Option.bind_some] at hb
  simp only[St.at] at hb
  cases hst:S.sl[t]? with
  | none=>rw[hst] at hb;simp[g9_] at hb
  | some x =>
   rw[hst] at hb
   simp only[Option.getD_some] at hb
   obtain⟨y,hy,hd⟩:=hr.sl.get hst
   have hy':a.tmps[t]? = some y:=by simpa using hy
   have hyd:db_ G a.tmps j=asB y:=by
    unfold db_
    rw[hj,Option.bind_some,hy']
    cases y<;>rfl
   simp only[cT_,hg,hyd]
   exact qh_ hb hd
theorem yV_ {P:Program} {ds:Dn} {pn:Pn} {Q:Exit→St→Prop} {S:St} (n:Nat) {τ:Tab} (hτ:aq_ P τ) {id:Nat} {l:List Oper} {o:Oper} (ho:l[n]? = some o)
  (h:vcOps P ds pn τ (l.map (·.dst)) (fun _ S1=>vcXG P ds pn (l.map (·.dst)) o (fun S2=>vcOps P ds pn τ (l.map (·.dst)) (fun _ S'=>Q .normal S') (l.drop (n+1)) S2 []) S1) (l.take n) S []):WP P ds pn (.region id l.toArray false) Q S:=fun w0 I0 F I β a w hr=>by
 have hsplit:l=l.take n++o::l.drop (n+1):=by
  obtain⟨hn,he⟩:=List.getElem?_eq_some_iff.1 ho
  rw[← he,← List.drop_eq_getElem_cons hn,List.take_append_drop]
 have hQ:∀ (ch:List PanicEntry) (a:Act) (w:World),pn.ok ch→(∃ bx I β,PRel ds w0 I0 F pn bx I β a w)→jh_ P ds pn w0 I0 F Q (.panic ch) a w:=fun ch a w hok hp=>⟨hok,hp⟩
 refine wpIn_region_list ?_
 have key:wpListIn (fO ds.ro) 1 P l.toArray (jh_ P ds pn w0 I0 F Q) (l.take n++o::l.drop (n+1)) a w:=by
  refine fc_ (ops:=l.toArray) (o::l.drop (n+1)) hQ (l.take n) S [] I β a w (by simpa using vcOps.run hτ (l.take n) S [] h) hr ?_
  intro _ S1 I1 β1 a1 w1 hx hr1
  have go:∀ S2 I2 β2 a2 w2,vcOps P ds pn τ (l.map (·.dst)) (fun _ S'=>Q .normal S') (l.drop (n+1)) S2 []→Rel ds w0 I0 F S2 I2 β2 a2 w2→wpListIn (fO ds.ro) 1 P l.toArray (jh_ P ds pn w0 I0 F Q) (l.drop (n+1)) a2 w2:=fun S2 I2 β2 a2 w2 hv hr2 =>
   c7_ (ops:=l.toArray) (K:=fun _ S'=>Q .normal S') hQ (l.drop (n+1)) S2 [] I2 β2 a2 w2 (by simpa using vcOps.run hτ (l.drop (n+1)) S2 [] hv) hr2
    fun _ S' I' β' a' w' hq hr'=>⟨S',I',β',hq,hr'⟩
  refine wpListIn_step fun K' hK'=>?_
  rw[cX_]
  unfold vcXG at hx
  cases hgd:o.guard with
  | none=>rw[hgd] at hx;exact hx.elim
  | some q =>
   obtain⟨j,want⟩:=q
   rw[hgd] at hx
   obtain⟨g,hb,ht,hf⟩:=hx
   have hw:=r8_ (P:=P) hr1 (G:=l.map (·.dst)) (o:=o) hgd hb
   have hl:l.toArray.toList.map (·.dst)=l.map (·.dst):=by simp
   rw[hl]
   cases g with
   | true =>
    rw[if_pos (hw.2 rfl)]
    obtain⟨R,hc,hR⟩:=ht rfl
    exact hc w0 I0 F I1 β1 a1 w1 hr1.under _ _ (fun S2 I2 β2 a2 w2 h2 hr2=>hK' a2 w2 (go S2 I2 β2 a2 w2 (hR S2 h2) hr2)) (fun ch I' β' w' hok hp=>hQ ch a1 w' hok ⟨_,_,_,hp⟩)
   | false =>
    rw[if_neg (fun e=>by cases hw.1 e)]
    obtain⟨v,hv⟩:=hf rfl
    exact⟨fun _ _=>trivial,hK' _ _ (go _ I1 β1 _ w1 hv (hr1.put o.dst (x:=.when false v) (y:=undef) ⟨fun e=>(by cases e),fun _=>rfl⟩))⟩
 rw[← hsplit] at key
 simpa using key
theorem wl_ {P:Program} {ds:Dn} {pn:Pn} {Q:Exit→St→Prop} {S:St} {τ:Tab} (hτ:aq_ P τ) {id:Nat} {o0 o1 o2 o3 o4 o5 o6 o7 o:Oper} {l:List Oper}
  (h:vcOps P ds pn τ ((o0::o1::o2::o3::o4::o5::o6::o7::o::l).map (·.dst)) (fun _ S1=>vcXG P ds pn ((o0::o1::o2::o3::o4::o5::o6::o7::o::l).map (·.dst)) o (fun S2=>vcOps P ds pn τ ((o0::o1::o2::o3::o4::o5::o6::o7::o::l).map (·.dst)) (fun _ S'=>Q .normal S') l S2 []) S1) [o0,o1,o2,o3,o4,o5,o6,o7] S []) :
  WP P ds pn (.region id (o0::o1::o2::o3::o4::o5::o6::o7::o::l).toArray false) Q S :=
 yV_ 8 hτ rfl h
theorem g2_ {w:World} {I:Nat→Prop} {β:Nat→Value} {v v':AV} (hl:Leq v v'):∀ {sl:List AV} {t:Nat} {vs:List Value},DenAs w I β (sl.set t v) vs→DenAs w I β (sl.set t v') vs
 | [],_,_,h=>h
 | x::sl,0,vs,h=>by
  obtain⟨y,ys,e,h1,h2⟩:=h
  exact⟨y,ys,e,hl _ _ _ _ h1,h2⟩
 | x::sl,t+1,vs,h=>by
  obtain⟨y,ys,e,h1,h2⟩:=h
  exact⟨y,ys,e,h1,g2_ hl h2⟩
theorem LCore.leq {P:Program} {ds:Dn} {pn:Pn} {o:Oper} {S:St} {v v':AV} {fp:List Nat} (h:LCore P ds pn o S ⟨v,[],[],[]⟩ fp) (hl:Leq v v'):LCore P ds pn o S ⟨v',[],[],[]⟩ fp:=by
 intro S1 hs hf w0 I0 F I β a w hr next Q hn hp
 refine h S1 hs hf w0 I0 F I β a w hr next Q (fun I' β' a' w' hr'=>hn I' β' a' w' ?_) hp
 cases hd:o.dst with
 | none=>rw[hd] at hr';exact hr'
 | some t =>
  rw[hd] at hr'
  exact⟨hr'.mem,g2_ hl hr'.sl,hr'.dn,hr'.fx⟩
theorem de_ {P:Program} {dn:Dn} {pn:Pn} {o:Oper} {S:St} {acc:List TI} {rest:St→List TI→Prop} {it:Operand} (ho:o.op=.entry it) {k j:Nat} (hi:S.ev it=.ptr k 0) {g:Nat} {l:List Ent3} {cl:Nat} {seen:Array Nat} {e:Ent3} (hk:getB S.bx k=some (ItAt g cl (seen.push e.born))) (hb:getB S.bx j=some (MapAt g l cl)) (hl:lq_ l cl) (he:e∈l)
  {kA:AV} (hkA:Leq (.d (.v e.key)) kA) (h:rest (S.put o.dst (.tup [kA,.d e.d])) (⟨⟨.tup [kA,.d e.d],[],[],[]⟩,[k,j]⟩::acc)):vcStop P dn pn o rest S acc :=
 ⟨_,_,(LCore.entry ho hi hk hb hl he).leq fun w I β v hv=>by
  obtain⟨vs,rfl,x,vs1,rfl,h1,h2⟩:=hv
  exact⟨_,rfl,x,_,rfl,hkA _ _ _ _ h1,h2⟩,trivial,h⟩
end Go.Xe
