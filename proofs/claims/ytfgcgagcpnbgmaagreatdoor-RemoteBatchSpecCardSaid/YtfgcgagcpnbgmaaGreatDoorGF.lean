/-
  Joined texts.
-/
import Derived.Test.YtfgcgagcpnbgmaaGreatDoorGEngFz
import Derived.Maps.RangeRun
import Derived.Test.YtfgcgagcpnbgmaaGreatDoorG8
set_option linter.all false
namespace Go.Xe
open Go.RowKit
variable [Glob]
theorem Mem.rebox {w0:World} {I0 F:Nat→Prop} {bx bx':Bxs} {I I':Nat→Prop} {β β':Nat→Value} {w:World} (h:Mem w0 I0 F bx I β w)
  (hI:∀ n,I n→I' n) (hnew:∀ n,I' n→I n∨∃ k b,getB bx k=some b∧Blk (β k) n)
  (hbx:∀ k b,getB bx' k=some b→BoxRel w I' β' (β' k) b)
  (hblk:∀ k b n,getB bx' k=some b→Blk (β' k) n→¬ I' n∧∃ k0 b0,getB bx k0=some b0∧Blk (β k0) n)
  (hinj:∀ k j b c n,getB bx' k=some b→getB bx' j=some c→Blk (β' k) n→Blk (β' j) n→k=j):Mem w0 I0 F bx' I' β' w:=by
 refine⟨hbx,fun k b n hk hn=>?_,hinj,fun n hn=>?_,fun n hn=>?_,h.kept.trans ⟨hI,fun _ _=>rfl⟩,h.fr,h.sz,h.os,h.tape,h.out,h.dr,h.gl⟩
 ·obtain⟨h1,k0,b0,h2,h3⟩:=hblk k b n hk hn
  exact⟨h1,(h.sep k0 b0 n h2 h3).2⟩
 ·rcases hnew n hn with h1|⟨k,b,h1,h2⟩
  ·exact h.im n h1
  ·exact (h.bxs k b h1).lt h2
 ·rcases hnew n hn with h1|⟨k,b,h1,h2⟩
  ·exact h.inew n h1
  ·exact .inr (h.sep k b n h1 h2).2
def F2_ (l:List (Value×Box)) (y:Value) (w:World) (I:Nat→Prop):Prop :=
 y=.tuple (l.map (·.1)).toArray∧(∀ q∈l,BoxRel w I (fun _=>undef) q.1 q.2)∧l.Pairwise fun a b=>∀ n,Blk a.1 n→¬ Blk b.1 n
def Bun (l:List (Value×Box)):Box:=.opq (F2_ l)
def Clo (b:Box):Prop:=b.single=true∧∀ k,am_ k b.cs=false
theorem lJ_ {l:List (Value×Box)} {n:Nat}:Blk (.tuple (l.map (·.1)).toArray) n↔∃ q∈l,blk q.1=some n:=by
 constructor
 ·rintro (h|⟨vs,e,v,hv,hb⟩)
  ·cases h
  ·cases e
   simp only[List.mem_map] at hv
   obtain⟨q,hq,rfl⟩:=hv
   exact⟨q,hq,hb⟩
 ·rintro⟨q,hq,hb⟩
  exact .inr ⟨_,rfl,q.1,by simpa using ⟨q.2,hq⟩,hb⟩
theorem Bun.out {l:List (Value×Box)} {w:World} {I:Nat→Prop} {β:Nat→Value} {y:Value} (hc:∀ q∈l,Clo q.2) (h:BoxRel w I β y (Bun l)) :
  y=.tuple (l.map (·.1)).toArray∧(∀ q∈l,∀ β',BoxRel w I β' q.1 q.2)∧l.Pairwise fun a b=>∀ n,Blk a.1 n→¬ Blk b.1 n:=by
 obtain⟨w1,I1,⟨h1,h2,h3⟩,hk,hb⟩:=h
 refine⟨h1,fun q hq β'=>?_,h3⟩
 have h4:=h2 q hq
 refine h4.mono hk (fun k hk=>?_) fun n hn=>(hb n ?_).2
 ·rw[(hc q hq).2 k] at hk;cases hk
 ·rw[h1,lJ_]
  exact⟨q,hq,h4.blk (hc q hq).1 hn⟩
theorem Bun.mk {l:List (Value×Box)} {w:World} {I:Nat→Prop} {β:Nat→Value} (hc:∀ q∈l,Clo q.2) (h:∀ q∈l,∀ β',BoxRel w I β' q.1 q.2) (hp:l.Pairwise fun a b=>∀ n,Blk a.1 n→¬ Blk b.1 n) :
  BoxRel w I β (.tuple (l.map (·.1)).toArray) (Bun l):=by
 refine⟨w,I,⟨rfl,fun q hq=>h q hq _,hp⟩,.refl w I,fun n hn=>⟨?_,rfl⟩⟩
 obtain⟨q,hq,hb⟩:=lJ_.1 hn
 exact (h q hq β).lt (.inl hb)
def PLe (j:Nat) (v:Value) (x y:AV):Prop:=∀ w I β u,β j=v→DenA w I β x u→DenA w I β y u
def PLeL (j:Nat) (v:Value):List AV→List AV→Prop
 | [],[]=>True
 | x::xs,y::ys=>PLe j v x y∧PLeL j v xs ys
 | _,_=>False
@[simp] theorem PLe.refl (j:Nat) (v:Value) (x:AV):PLe j v x x:=fun _ _ _ _ _ h=>h
@[simp] theorem PLe.any (j:Nat) (v:Value) (x:AV):PLe j v x (.d .any):=fun w I β u _ _=>bL_ w I β u
@[simp] theorem PLeL.refl (j:Nat) (v:Value):∀ l,PLeL j v l l
 | []=>trivial
 | x::xs=>⟨.refl j v x,PLeL.refl j v xs⟩
abbrev tB_ (p off:Nat):Value:=.pointer (some ⟨p,off,none⟩)
@[simp] theorem Dm_ (j p off:Nat):PLe j (tB_ p 0) (.ptr j off) (.d (.v (tB_ p off))):=fun w I β u hj h=>by
 obtain⟨b,h1,h2⟩:=h
 rw[hj] at h1
 cases h1
 rw[DenA_v];exact h2
@[simp] theorem Dk_ (j p off:Nat):PLe j (tB_ p 0) (.d (.v (tB_ p off))) (.ptr j off):=fun w I β u hj h=>by
 rw[DenA_v] at h
 exact⟨p,hj,h⟩
@[simp] theorem Dl_ (j:Nat) (v:Value):PLe j v (.row j) (.d (.v v)):=fun w I β u hj h=>by
 rw[DenA_v,h.1,hj]
theorem PLeL.ok {j:Nat} {v:Value} {w:World} {I:Nat→Prop} {β:Nat→Value} (hj:β j=v):∀ {l l':List AV} {vs:List Value},PLeL j v l l'→DenAs w I β l vs→DenAs w I β l' vs
 | [],[],_,_,h=>h
 | x::xs,y::ys,_,hl,h=>by obtain⟨u,vs',rfl,h1,h2⟩:=h;exact⟨u,vs',rfl,hl.1 _ _ _ _ hj h1,PLeL.ok hj hl.2 h2⟩
 | [],_::_,_,hl,_=>hl.elim
 | _::_,[],_,hl,_=>hl.elim
def PLeB (j:Nat) (v:Value):Box→Box→Prop
 | .cells T cs,.cells T' cs'=>T=T'∧PLeL j v cs cs'
 | .row T sz n cs,.row T' sz' n' cs'=>T=T'∧sz=sz'∧n=n'∧PLeL j v cs cs'
 | b,b'=>b=b'
theorem PLeB.ok {j:Nat} {v:Value} {w:World} {I:Nat→Prop} {β:Nat→Value} {y:Value} (hj:β j=v) {b b':Box} (h:PLeB j v b b') (hb:BoxRel w I β y b):BoxRel w I β y b':=by
 cases b<;>cases b'<;>simp only[PLeB] at h<;>first
  | (obtain⟨rfl,h⟩:=h;obtain⟨g,vs,e,hh,hd,ho⟩:=hb;exact⟨g,vs,e,hh,h.ok hj hd,ho⟩)
  | (obtain⟨rfl,rfl,rfl,h⟩:=h;obtain⟨vs,hh,hd,ho⟩:=hb;exact⟨vs,hh,h.ok hj hd,ho⟩)
  | (cases h;exact hb)
  | cases h
def PLeBx (j k:Nat) (v:Value) (bx:Bxs):Bxs→Prop
 | []=>True
 | (i,c')::r=>(i≠j∧i≠k∧match getB bx i with
  | some c=>PLeB j v c c'
  | none=>False)∧PLeBx j k v bx r
theorem PLeBx.get {j k:Nat} {v:Value} {bx:Bxs}:∀ {bx':Bxs},PLeBx j k v bx bx'→∀ i c',getB bx' i=some c'→i≠j∧i≠k∧∃ c,getB bx i=some c∧PLeB j v c c'
 | (i0,c0)::r,h,i,c',hi=>by
  simp only[getB] at hi
  split at hi
  ·rename_i e
   subst e
   cases hi
   obtain⟨⟨h1,h2,h3⟩,_⟩:=h
   refine⟨h1,h2,?_⟩
   cases hg:getB bx i0 with
   | none=>rw[hg] at h3;exact h3.elim
   | some c=>rw[hg] at h3;exact⟨c,rfl,h3⟩
  ·exact h.2.get i c' hi
def Opn {α:Type} (S:St) (S':α→St):Prop:=∀ ds w0 I0 F I β a w,Rel ds w0 I0 F S I β a w→∃ x I' β',Rel ds w0 I0 F (S' x) I' β' a w
theorem FR_ {α:Type} {S S1:St} {S':α→St} (h:Wk S S1) (h':Opn S1 S'):Opn S S':=fun ds w0 I0 F I β a w hr=>by
 obtain⟨I1,β1,hr1⟩:=h ds w0 I0 F I β a w hr
 exact h' ds w0 I0 F I1 β1 a w hr1
theorem x8_ {P:Program} {ds:Dn} {pn:Pn} {c:Code} {Q:Exit→St→Prop} {S:St} {α:Type} {S':α→St} (h:Opn S S') (hw:∀ x,WP P ds pn c Q (S' x)):WP P ds pn c Q S:=fun w0 I0 F I β a w hr=>by
 obtain⟨x,I',β',hr'⟩:=h ds w0 I0 F I β a w hr
 exact hw x w0 I0 F I' β' a w hr'
@[simp] theorem PLeB.refl (j:Nat) (v:Value):∀ b,PLeB j v b b
 | .cells _ _=>⟨rfl,.refl ..⟩
 | .row .. => ⟨rfl,rfl,rfl,.refl ..⟩
 | .obj .. => rfl
 | .mp _=>rfl
 | .opq _=>rfl
theorem r2_ {k:Nat} {l:List AV} (h:am_ k l=false):∀ j,am_ j l=true→j≠k:=fun j hj e=>by subst e;rw[h] at hj;cases hj
section
variable {dn:Dn} {w0:World} {I0 F:Nat→Prop} {S S':St} {I:Nat→Prop} {β:Nat→Value} {a:Act} {w:World}
theorem Rel.push (hr:Rel dn w0 I0 F S I β a w) {j k:Nat} {l:List (Value×Box)} {b:Box} (hj:getB S.bx j=some b) (hk:getB S.bx k=some (Bun l)) (hjk:j≠k) (hlt:k<1000) (hc:∀ q∈l,Clo q.2) (hb:Clo b)
  {bx':Bxs} (hs:PLeL j (β j) S.sl S'.sl) (hbx:S'.bx=(k,Bun ((β j,b)::l))::bx') (hpb:PLeBx j k (β j) S.bx bx') (hdf:S'.df=S.df) (hf1:am_ k S'.sl=false) (hf2:eA_ k bx'=false):∃ β',Rel dn w0 I0 F S' I β' a w:=by
 obtain⟨o1,o2,o3⟩:=Bun.out hc (hr.mem.bxs k _ hk)
 have hjb:=hr.mem.bxs j b hj
 have hcl:∀ β',BoxRel w I β' (β j) b:=fun β'=>hjb.mono (.refl w I) (fun t ht=>by rw[hb.2 t] at ht;cases ht) fun _ _=>rfl
 have hall:∀ q∈(β j,b)::l,∀ β',BoxRel w I β' q.1 q.2:=fun q hq β'=>by
  rcases List.mem_cons.1 hq with rfl|hq
  ·exact hcl β'
  ·exact o2 q hq β'
 have hin:∀ q∈l,∀ n,blk q.1=some n→Blk (β k) n:=fun q hq n hn=>by rw[o1,lJ_];exact⟨q,hq,hn⟩
 have hcc:∀ q∈(β j,b)::l,Clo q.2:=fun q hq=>by
  rcases List.mem_cons.1 hq with rfl|hq
  ·exact hb
  ·exact hc q hq
 have hpw:((β j,b)::l).Pairwise fun a b=>∀ n,Blk a.1 n→¬ Blk b.1 n:=by
  refine List.pairwise_cons.2 ⟨fun q hq n h1 h2=>?_,o3⟩
  exact hjk (hr.mem.inj j k b _ n hj hk h1 (hin q hq n ((o2 q hq β).blk (hc q hq).1 h2)))
 obtain⟨g1,g2⟩:=hasB_get hf2
 have hget:∀ i c',getB S'.bx i=some c'→(i=k∧c'=Bun ((β j,b)::l))∨(i≠k∧getB bx' i=some c'):=fun i c' h=>by
  rw[hbx] at h
  simp only[getB] at h
  split at h
  ·rename_i e;cases h;exact .inl ⟨e.symm,rfl⟩
  ·rename_i e;exact .inr ⟨fun e'=>e e'.symm,h⟩
 have hT:∀ n,Blk (.tuple (((β j,b)::l).map (·.1)).toArray) n→∃ k0 b0,getB S.bx k0=some b0∧Blk (β k0) n∧(k0=j∨k0=k):=fun n hn=>by
  obtain⟨q,hq,hqn⟩:=lJ_.1 hn
  rcases List.mem_cons.1 hq with rfl|hq
  ·exact⟨j,b,hj,.inl hqn,.inl rfl⟩
  ·exact⟨k,_,hk,hin q hq n hqn,.inr rfl⟩
 refine⟨upd β k (.tuple (((β j,b)::l).map (·.1)).toArray),⟨hr.mem.rebox (fun _ h=>h) (fun n h=>.inl h) (fun i c' h=>?_) (fun i c' n h hn=>?_) (fun i i' c c' n h1 h2 hn1 hn2=>?_),?_,?_,fun i hi=>?_⟩⟩
 ·rcases hget i c' h with⟨rfl,rfl⟩|⟨hne,hi⟩
  ·rw[upd_same];exact Bun.mk hcc hall hpw
  ·rw[upd_other _ _ hne]
   obtain⟨_,_,c,h1,h2⟩:=hpb.get i c' hi
   refine (h2.ok rfl (hr.mem.bxs i c h1)).mono (.refl w I) (fun t ht=>upd_other _ _ fun e=>?_) fun _ _=>rfl
   subst e;rw[g2 i c' hi] at ht;cases ht
 ·rcases hget i c' h with⟨rfl,rfl⟩|⟨hne,hi⟩
  ·rw[upd_same] at hn
   obtain⟨k0,b0,h1,h2,_⟩:=hT n hn
   exact⟨(hr.mem.sep k0 b0 n h1 h2).1,k0,b0,h1,h2⟩
  ·rw[upd_other _ _ hne] at hn
   obtain⟨_,_,c,h1,_⟩:=hpb.get i c' hi
   exact⟨(hr.mem.sep i c n h1 hn).1,i,c,h1,hn⟩
 ·rcases hget i c h1 with⟨rfl,rfl⟩|⟨hne,hi⟩<;>rcases hget i' c' h2 with⟨rfl,rfl⟩|⟨hne',hi'⟩
  ·rfl
  ·rw[upd_same] at hn1
   rw[upd_other _ _ hne'] at hn2
   obtain⟨k0,b0,e1,e2,e3⟩:=hT n hn1
   obtain⟨f1,f2,c0,f3,_⟩:=hpb.get i' c' hi'
   have:=hr.mem.inj k0 i' b0 c0 n e1 f3 e2 hn2
   rcases e3 with rfl|rfl
   ·exact absurd this.symm f1
   ·exact this
  ·rw[upd_same] at hn2
   rw[upd_other _ _ hne] at hn1
   obtain⟨k0,b0,e1,e2,e3⟩:=hT n hn2
   obtain⟨f1,f2,c0,f3,_⟩:=hpb.get i c hi
   have:=hr.mem.inj k0 i b0 c0 n e1 f3 e2 hn1
   rcases e3 with rfl|rfl
   ·exact absurd this.symm f1
   ·exact this.symm
  ·rw[upd_other _ _ hne] at hn1
   rw[upd_other _ _ hne'] at hn2
   obtain⟨_,_,c0,f3,_⟩:=hpb.get i c hi
   obtain⟨_,_,c1,f4,_⟩:=hpb.get i' c' hi'
   exact hr.mem.inj i i' c0 c1 n f3 f4 hn1 hn2
 ·exact DenAs.mono (.refl w I) _ _ (fun t ht=>upd_other _ _ (r2_ hf1 t ht)) (hs.ok rfl hr.sl)
 ·rw[hdf];exact hr.dn
 ·rw[upd_other _ _ (by omega)];exact hr.fx i hi
end
section
variable {S:St}
end
def Cv (ds ds':Dn) (S S':St):Prop:=(ds'.ds=ds.ds∧ds'.ro=ds.ro∧ds'.rf=ds.rf)∧∀ w0 I0 F I β a w,Rel ds w0 I0 F S I β a w→∃ I' β',Rel ds' w0 I0 F S' I' β' a w
theorem Cv.trans {ds ds' ds'':Dn} {S S' S'':St} (h:Cv ds ds' S S') (h':Cv ds' ds'' S' S''):Cv ds ds'' S S'' :=
 ⟨⟨h'.1.1.trans h.1.1,h'.1.2.1.trans h.1.2.1,h'.1.2.2.trans h.1.2.2⟩,fun w0 I0 F I β a w hr=>by
  obtain⟨I1,β1,h1⟩:=h.2 w0 I0 F I β a w hr
  exact h'.2 w0 I0 F I1 β1 a w h1⟩
theorem Cv.push {ds:Dn} {S:St} (j k:Nat) {l:List (Value×Box)} {b:Box} (hj:getB S.bx j=some b) (hk:getB S.bx k=some (Bun l)) (hj0:1000≤j) (hlt:k<1000) (hc:∀ q∈l,Clo q.2) (hb:Clo b) (sl':List AV) (bx':Bxs)
  (hs:PLeL j (ds.β0 j) S.sl sl') (hpb:PLeBx j k (ds.β0 j) S.bx bx') (hf1:am_ k sl'=false) (hf2:eA_ k bx'=false):Cv ds ds S ⟨sl',(k,Bun ((ds.β0 j,b)::l))::bx',S.df⟩ :=
 ⟨⟨rfl,rfl,rfl⟩,fun w0 I0 F I β a w hr=>by
  have hv:=hr.fx j hj0
  rw[← hv] at hs hpb ⊢
  obtain⟨β',h'⟩:=Rel.push (S':=⟨sl',(k,Bun ((β j,b)::l))::bx',S.df⟩) hr hj hk (by omega) hlt hc hb (bx':=bx') hs rfl hpb rfl hf1 hf2
  exact⟨I,β',h'⟩⟩
def CvO (ds ds':Dn) (S:St) {α:Type} (S':α→St):Prop:=(ds'.ds=ds.ds∧ds'.ro=ds.ro∧ds'.rf=ds.rf)∧∀ w0 I0 F I β a w,Rel ds w0 I0 F S I β a w→∃ x I' β',Rel ds' w0 I0 F (S' x) I' β' a w
theorem Ep_ {ds ds' ds'':Dn} {S:St} {α:Type} {S' S2:α→St} (h:CvO ds ds' S S') (hd:ds''.ds=ds'.ds∧ds''.ro=ds'.ro∧ds''.rf=ds'.rf) (h':∀ x,Cv ds' ds'' (S' x) (S2 x)):CvO ds ds'' S S2 :=
 ⟨⟨hd.1.trans h.1.1,hd.2.1.trans h.1.2.1,hd.2.2.trans h.1.2.2⟩,fun w0 I0 F I β a w hr=>by
  obtain⟨x,I1,β1,h1⟩:=h.2 w0 I0 F I β a w hr
  exact⟨x,(h' x).2 w0 I0 F I1 β1 a w h1⟩⟩
end Go.Xe
namespace Go.Xe
open Go.RowKit
variable [Glob]
def Fz (w:World) (I:Nat→Prop) (q:Value×Box):Prop :=
 match q.2 with
 | .cells _ cs=>∀ ds:List D,cs=ds.map .d→∀ off,off≤ds.length→∃ p,q.1=tB_ p 0∧DenAt w I ds p 0
 | .row _ sz n cs=>∀ ds:List D,cs=ds.map .d→Den w I (.sl sz ds n false) q.1
 | _=>True
def FLe (l:List (Value×Box)) (x y:AV):Prop:=∀ w I β u,(∀ q∈l,Fz w I q)→DenA w I β x u→DenA w I β y u
def FLeL (l:List (Value×Box)):List AV→List AV→Prop
 | [],[]=>True
 | x::xs,y::ys=>FLe l x y∧FLeL l xs ys
 | _,_=>False
@[simp] theorem FLe.refl (l:List (Value×Box)) (x:AV):FLe l x x:=fun _ _ _ _ _ h=>h
@[simp] theorem FLe.any (l:List (Value×Box)) (x:AV):FLe l x (.d .any):=fun w I β u _ _=>bL_ w I β u
@[simp] theorem FLeL.refl (l:List (Value×Box)):∀ xs,FLeL l xs xs
 | []=>trivial
 | x::xs=>⟨.refl l x,FLeL.refl l xs⟩
theorem FLeL.ok {l:List (Value×Box)} {w:World} {I:Nat→Prop} {β:Nat→Value} (hf:∀ q∈l,Fz w I q):∀ {xs ys:List AV} {vs:List Value},FLeL l xs ys→DenAs w I β xs vs→DenAs w I β ys vs
 | [],[],_,_,h=>h
 | x::xs,y::ys,_,hl,h=>by obtain⟨u,vs',rfl,h1,h2⟩:=h;exact⟨u,vs',rfl,hl.1 _ _ _ _ hf h1,FLeL.ok hf hl.2 h2⟩
 | [],_::_,_,hl,_=>hl.elim
 | _::_,[],_,hl,_=>hl.elim
def FD (l:List (Value×Box)) (d d':D):Prop:=∀ w I u,(∀ q∈l,Fz w I q)→Den w I d u→Den w I d' u
@[simp] theorem FD.refl (l:List (Value×Box)) (d:D):FD l d d:=fun _ _ _ _ h=>h
def FDs (l:List (Value×Box)):List D→List D→Prop
 | [],[]=>True
 | x::xs,y::ys=>FD l x y∧FDs l xs ys
 | _,_=>False
theorem FDs.dens {l:List (Value×Box)} {w:World} {I:Nat→Prop} (hf:∀ q∈l,Fz w I q):∀ {xs ys:List D} {vs:List Value},FDs l xs ys→Dens w I xs vs→Dens w I ys vs
 | [],[],_,_,h=>h
 | x::xs,y::ys,_,hl,h=>by obtain⟨u,vs',rfl,h1,h2⟩:=h;exact⟨u,vs',rfl,hl.1 _ _ _ hf h1,FDs.dens hf hl.2 h2⟩
 | [],_::_,_,hl,_=>hl.elim
 | _::_,[],_,hl,_=>hl.elim
theorem FDs.denAt {l:List (Value×Box)} {w:World} {I:Nat→Prop} (hf:∀ q∈l,Fz w I q) {b:Nat}:∀ {xs ys:List D} {off:Nat},FDs l xs ys→DenAt w I xs b off→DenAt w I ys b off
 | [],[],_,_,_=>trivial
 | x::xs,y::ys,off,hl,⟨⟨v,h1,h2,h3,h4⟩,h5⟩=>⟨⟨v,h1,h2,h3,hl.1 _ _ _ hf h4⟩,FDs.denAt hf hl.2 h5⟩
 | [],_::_,_,hl,_=>hl.elim
 | _::_,[],_,hl,_=>hl.elim
theorem FD.ip {l:List (Value×Box)} {p:Nat} {T:TypeId} {ds es:List D} (hq:(tB_ p 0,Box.cells T (ds.map .d))∈l) (h:FDs l ds es):FD l (.v (tB_ p 0)) (.ip es):=fun w I u hf hu=>by
 rw[Den] at hu
 subst hu
 obtain⟨p',e,hd⟩:=hf _ hq ds rfl 0 (Nat.zero_le _)
 cases e
 rw[Den]
 exact⟨p,0,rfl,h.denAt hf hd⟩
theorem FD.sl {l:List (Value×Box)} {v:Value} {T:TypeId} {sz n:Nat} {ds:List D} (hq:(v,Box.row T sz n (ds.map .d))∈l):FD l (.v v) (.sl sz ds n false):=fun w I u hf hu=>by
 rw[Den] at hu
 subst hu
 exact hf _ hq ds rfl
def FB (l:List (Value×Box)):Box→Box→Prop
 | .cells T cs,.cells T' cs'=>T=T'∧FLeL l cs cs'
 | .row T sz n cs,.row T' sz' n' cs'=>T=T'∧sz=sz'∧n=n'∧FLeL l cs cs'
 | .mp kvs,.mp kvs'=>kvs.map (·.1)=kvs'.map (·.1)∧FDs l (kvs.map (·.2)) (kvs'.map (·.2))
 | b,b'=>b=b'
@[simp] theorem FDs.refl (l:List (Value×Box)):∀ ds,FDs l ds ds
 | []=>trivial
 | x::xs=>⟨.refl l x,FDs.refl l xs⟩
@[simp] theorem FB.refl (l:List (Value×Box)):∀ b,FB l b b
 | .cells _ _=>⟨rfl,.refl ..⟩
 | .row .. => ⟨rfl,rfl,rfl,.refl ..⟩
 | .obj .. => rfl
 | .mp _=>⟨rfl,.refl ..⟩
 | .opq _=>rfl
theorem FB.ok {l:List (Value×Box)} {w:World} {I:Nat→Prop} {β:Nat→Value} {y:Value} (hf:∀ q∈l,Fz w I q) {b b':Box} (h:FB l b b') (hb:BoxRel w I β y b):BoxRel w I β y b':=by
 cases b<;>cases b'<;>simp only[FB] at h<;>first
  | (obtain⟨rfl,h⟩:=h;obtain⟨g,vs,e,hh,hd,ho⟩:=hb;exact⟨g,vs,e,hh,h.ok hf hd,ho⟩)
  | (obtain⟨rfl,rfl,rfl,h⟩:=h;obtain⟨vs,hh,hd,ho⟩:=hb;exact⟨vs,hh,h.ok hf hd,ho⟩)
  | (obtain⟨h1,h2⟩:=h;obtain⟨g,es,clock,e,hg,hk,hd,hst⟩:=hb;exact⟨g,es,clock,e,hg,hk.trans h1,h2.dens hf hd,hst⟩)
  | (cases h;exact hb)
  | cases h
def FBx (l:List (Value×Box)) (k:Nat) (bx:Bxs):Bxs→Prop
 | []=>True
 | (i,c')::r=>(i≠k∧match getB bx i with
  | some c=>FB l c c'
  | none=>False)∧FBx l k bx r
theorem FBx.get {l:List (Value×Box)} {k:Nat} {bx:Bxs}:∀ {bx':Bxs},FBx l k bx bx'→∀ i c',getB bx' i=some c'→i≠k∧∃ c,getB bx i=some c∧FB l c c'
 | (i0,c0)::r,h,i,c',hi=>by
  simp only[getB] at hi
  split at hi
  ·rename_i e
   subst e
   cases hi
   obtain⟨⟨h1,h3⟩,_⟩:=h
   refine⟨h1,?_⟩
   cases hg:getB bx i0 with
   | none=>rw[hg] at h3;exact h3.elim
   | some c=>rw[hg] at h3;exact⟨c,rfl,h3⟩
  ·exact h.2.get i c' hi
end Go.Xe
namespace Go.Xe
open Go.RowKit
variable [Glob]
structure Ent3 where
 key:Value
 born:Nat
 d:D
 deriving Inhabited
def FS_ (g:Nat) (l:List Ent3) (clock:Nat) (y:Value) (w:World) (I:Nat→Prop):Prop :=
 y=.map (some g)∧∃ es,w.heap[g]? = some (.map es clock)∧es.toList.map (fun e=>(e.key,e.born))=l.map (fun e=>(e.key,e.born))∧Dens w I (l.map (·.d)) (es.toList.map (·.val))
def Ad_ (g:Nat) (l:List Ent3) (clock:Nat):Box:=.opq (FS_ g l clock)
def ItP (g c:Nat) (seen:Array Nat) (y:Value) (w:World) (I:Nat→Prop):Prop:=∃ r,y=tB_ r 0∧w.heap[r]? = some (.mapIter (some g) c seen c)
def Eo_ (g c:Nat) (seen:Array Nat):Box:=.opq (ItP g c seen)
section
variable {dn:Dn} {w0:World} {I0 F:Nat→Prop} {S:St} {I:Nat→Prop} {β:Nat→Value} {a:Act} {w:World}
theorem ze_ {g:Nat} {l:List Ent3} {c:Nat} {y:Value} (h:BoxRel w I β y (Ad_ g l c)):FS_ g l c y w I:=by
 obtain⟨w1,I1,⟨rfl,es,h1,h2,h3⟩,hk,hb⟩:=h
 exact⟨rfl,es,by rw[(hb g (.inl rfl)).2];exact h1,h2,Dens.mono hk _ _ h3⟩
theorem A2_ {p:Value→World→(Nat→Prop)→Prop} {y:Value} (h:p y w I) (hb:∀ n,Blk y n→n<w.heap.size):BoxRel w I β y (.opq p):=⟨w,I,h,.refl w I,fun n hn=>⟨hb n hn,rfl⟩⟩
theorem Rel.say (hr:Rel dn w0 I0 F S I β a w) {k:Nat} {b b':Box} (hb:getB S.bx k=some b) (h:BoxRel w I β (β k) b'):Rel dn w0 I0 F ⟨S.sl,setB S.bx k b',S.df⟩ I β a w:=by
 have hget:∀ i c',getB (setB S.bx k b') i=some c'→∃ c,getB S.bx i=some c∧BoxRel w I β (β i) c':=fun i c' h'=>by
  rw[br_] at h'
  split at h'
  ·rename_i e;subst e;cases h';exact⟨b,hb,h⟩
  ·exact⟨c',h',hr.mem.bxs i c' h'⟩
 refine⟨hr.mem.rebox (fun _ h=>h) (fun n h=>.inl h) (fun i c' h=>?_) (fun i c' n h hn=>?_) (fun i i' c c' n h1 h2 hn1 hn2=>?_),hr.sl,hr.dn,hr.fx⟩
 ·obtain⟨_,_,h2⟩:=hget i c' h;exact h2
 ·obtain⟨c,h1,_⟩:=hget i c' h;exact⟨(hr.mem.sep i c n h1 hn).1,i,c,h1,hn⟩
 ·obtain⟨d,h3,_⟩:=hget i c h1
  obtain⟨d',h4,_⟩:=hget i' c' h2
  exact hr.mem.inj i i' d d' n h3 h4 hn1 hn2
end
section
variable {P:Program} {ds:Dn} {pn:Pn} {c:Code} {Q:Exit→St→Prop} {S:St}
end
section
variable {P:Program} {τ:Tab} {dn:Dn} {pn:Pn} {o:Oper} {S:St} {acc:List TI} {rest:St→List TI→Prop}
theorem LCore.range (hτ:ay_ P τ) {T:TypeId} {m:Operand} (ho:o.op=.range T m) {K E:TypeId} {sz1 b1:Nat} {z1:List Value} (ht:τ T=some ⟨.map K E,sz1,b1,z1⟩) (k:Nat) {j:Nat} (hm:S.ev m=.row j) {g:Nat} {l:List Ent3} {cl:Nat} (hb:getB S.bx j=some (Ad_ g l cl)) :
  LCore P dn pn o S ⟨.ptr k 0,[],[],[(k,Eo_ g cl #[])]⟩ [j]:=by
 intro S1 hs hf
 have em:=hs.1 m (by simp[ho,Op.operands])
 rw[← em] at hm
 obtain⟨dd,hu,hk⟩:=(hτ T _ ht).und
 simp only[TK.ok] at hk
 subst hk
 have hb1:=(hs.2.2 j (by simp)).trans hb
 have hk0:S1.has k=false:=hf _ (List.mem_singleton.2 rfl)
 refine Core.world fun w0 I0 F I β a w hr=>?_
 obtain⟨hβ,es,hg,h2,hv⟩:=ze_ (hr.mem.bxs j _ hb1)
 have hmv:=hr.ev m
 rw[hm,DenA] at hmv
 have hme:a.eval m=.map (some g):=hmv.1.trans hβ
 refine⟨tB_ w.heap.size 0,w.alloc (.mapIter (some g) cl #[] cl),I,upd β k (tB_ w.heap.size 0),?_,?_⟩
 ·simp[execOp,ho,hme,Instr.range,run_underlying hu,MapKept.run_getObj_map hg,newObj,Result.andThen,Sem.run]
 ·rw[gK_]
  refine Rel.put (hr.allocO (o:=.mapIter (some g) cl #[] cl) (b:=Eo_ g cl #[]) (y:=tB_ w.heap.size 0) hk0 (fun n h=>?_) (A2_ ⟨w.heap.size,rfl,heap_alloc_new w _⟩ fun n hn=>?_)) o.dst (jz_ k _ 0)
  ·exact Blk.one rfl h
  ·rw[Blk.one (m:=w.heap.size) rfl hn]
   exact (Array.getElem?_eq_some_iff.1 (heap_alloc_new w (.mapIter (some g) cl #[] cl))).1
theorem vcStop.range (hτ:ay_ P τ) {T:TypeId} {m:Operand} (ho:o.op=.range T m) {K E:TypeId} {sz1 b1:Nat} {z1:List Value} (ht:τ T=some ⟨.map K E,sz1,b1,z1⟩) (k:Nat) {j:Nat} (hm:S.ev m=.row j) {g:Nat} {l:List Ent3} {cl:Nat} (hb:getB S.bx j=some (Ad_ g l cl)) (hk0:S.has k=false)
  (h:rest (S.app o.dst ⟨.ptr k 0,[],[],[(k,Eo_ g cl #[])]⟩) (⟨⟨.ptr k 0,[],[],[(k,Eo_ g cl #[])]⟩,[j]⟩::acc)):vcStop P dn pn o rest S acc :=
 ⟨_,_,LCore.range hτ ho ht k hm hb,⟨hk0,trivial⟩,h⟩
end
end Go.Xe
namespace Go.Xe
open Go.RowKit
variable [Glob]
def FunX (P:Program) (f:FuncId) (args:List AV) (bi:Bxs) {α:Type} (res:α→AV) (bo:α→Bxs):Prop :=
 ∀ w I β vs,Mem w I (Fp bi β) bi I β w→DenAs w I β args vs→Calls P f vs.toArray w fun
  | .returned v,w'=>∃ x,∃ I' β',Mem w I (Fp bi β) (bo x) I' β' w'∧DenA w' I' β' (res x) v∧∀ k,1000≤k→β' k=β k
  | .panicked ch,w'=>False
  | .outgrown,_=>False
theorem FA_ {P:Program} {f:FuncId} {args:List AV} {bi:Bxs} {α:Type} {res:α→AV} {bo:α→Bxs} (x:α) (h:Fun P f args bi (res x) (bo x) fun _=>False):FunX P f args bi res bo:=fun w I β vs hm hd=>by
 refine Calls.mono (h w I β vs hm hd) fun e w' he=>?_
 cases e with
 | returned v=>exact⟨x,he⟩
 | panicked ch=>exact he.1
 | outgrown=>exact he
def finX (τ:Tab) (rs:List ResultVar) {α:Type} (res:α→AV) (bo:α→Bxs) (e:Exit) (S:Kp2 (τ,rs) (res,bo)):Prop :=
 match e with
 | .normal=>∃ x,∃ S',Wk S S'∧r6_ τ rs (res x) (bo x) S'
 | .ret=>∃ x,∃ S',Wk S S'∧r6_ τ rs (res x) (bo x) S'
 | _=>False
theorem finX.ret {τ:Tab} {rs:List ResultVar} {α:Type} {res:α→AV} {bo:α→Bxs} (x:α) {S:St} (h:finQ τ rs (res x) (bo x) .ret S):finX τ rs res bo .ret S:=⟨x,h⟩
theorem Ay_ {P:Program} {τ:Tab} (hτ:ay_ P τ) {f:FuncId} {fn:Func} {c:Code} (hf:P.funcs[f]? = some fn) (hb:fn.body=some c) {args:List AV} {bi:Bxs} {α:Type} {res:α→AV} {bo:α→Bxs}
  (h:∀ β0,WP P ⟨[],β0,none,false⟩ an_ c (finX τ fn.results.toList res bo) (dU_ fn.ntmps args bi)):FunX P f args bi res bo:=by
 intro w I β vs hm hd
 refine calls_of_wp hf hb (wp_mono (wpIn_wide.1 (h β w I (Fp bi β) I β _ w ⟨hm,?_,⟨rfl,fun _=>rfl⟩,fun _ _=>rfl⟩)) fun e a' w' hh=>?_)
 ·simp only[dU_,Array.toList_append,Array.toList_replicate]
  rw[hd.length]
  have:=cu_ (w:=w) (I:=I) (β:=β) (List.replicate (fn.ntmps-vs.length) undef)
  simp only[List.length_replicate] at this
  exact hd.append (by simpa using this)
 ·have fin:(∃ S I' β',(∃ x,∃ S',Wk S S'∧r6_ τ fn.results.toList (res x) (bo x) S')∧Rel ⟨[],β,none,false⟩ w I (Fp bi β) S I' β' a' w')→a'.defers=[]∧∃ v,(results fn a'.tmps).run P w'=.ok v w'∧∃ x,∃ I' β',Mem w I (Fp bi β) (bo x) I' β' w'∧DenA w' I' β' (res x) v∧∀ k,1000≤k→β' k=β k:=by
   rintro⟨S,I1,β1,⟨x,S',hw,side,l,hl,hs,hle,hbo⟩,hr1⟩
   obtain⟨I',β',hr⟩:=hw _ _ _ _ _ _ _ _ hr1
   obtain⟨us,hus,hdu⟩:=dW_ hτ hr _ hl hs
   exact⟨hr.dn.pan rfl,_,cr_ fn a'.tmps P w' us hus,x,I',β',hr.mem.sub hbo,hle _ _ _ _ hdu.one,hr.fx⟩
  cases e with
  | normal=>exact fin hh
  | ret=>exact fin hh
  | panic ch=>exact hh.1.elim
  | exit id=>obtain⟨S,I',β',hq,_⟩:=hh;exact hq.elim
  | goto l=>obtain⟨S,I',β',hq,_⟩:=hh;exact hq.elim
  | outgrown=>exact hh.elim
def FB_ (P:Program) (ds:Dn) (pn:Pn) (o:Oper) (S:St) (R:St→Prop):Prop :=
 ∀ w0 I0 F I β a w,Rel ds w0 I0 F S I β a w→∀ (next:Act→World→Prop) (Q:Exit→Act→World→Prop),
  (∀ S' I' β' a' w',R S'→Rel ds w0 I0 F S' I' β' a' w'→next a' w') →
  (∀ ch I' β' w',pn.ok ch→PRel ds w0 I0 F pn S.bx I' β' a w'→Q (.panic ch) a w') →
  o.wpIn (fO ds.ro) 1 P a w next Q
def vcX (P:Program) (ds:Dn) (pn:Pn) (o:Oper) (rest:St→Prop) (S:Kp2 (P,ds,o) (rest,pn)):Prop:=∃ R,FB_ P ds pn o S R∧∀ S2,R S2→rest S2
theorem AB_ {P:Program} {ds:Dn} {pn:Pn} {o:Oper} {rest:St→Prop} {S:St} {e:Eff} {fp:List Nat} (hl:LCore P ds pn o S e fp) (hf:bY_ S e.add) {α:Type} {S':α→St} (ho:Opn (S.app o.dst e) S') (h:∀ x,rest (S' x)):vcX P ds pn o rest S :=
 ⟨fun S2=>∃ x,S2=S' x,fun w0 I0 F I β a w hr next Q hn hp=>hl S ⟨fun _ _=>rfl,fun _ _=>rfl,fun _ _=>rfl⟩ ((b5_ _).1 hf) w0 I0 F I β a w hr next Q (fun I' β' a' w' hr'=>by
  obtain⟨x,I2,β2,h2⟩:=ho _ _ _ _ _ _ _ _ hr'
  exact hn (S' x) I2 β2 a' w' ⟨x,rfl⟩ h2) hp,fun _ ⟨x,e⟩=>e▸h x⟩
theorem vcX.op {P:Program} {τ:Tab} (hτ:ay_ P τ) {ds:Dn} {pn:Pn} {o:Oper} {rest:St→Prop} {S:St} {side:Prop} {e:Eff} {fp:List Nat} (hr:opA τ o S=some (side,e,fp)) (hs:side) (hf:bY_ S e.add) {α:Type} {S':α→St} (ho:Opn (S.app o.dst e) S') (h:∀ x,rest (S' x)):vcX P ds pn o rest S :=
 AB_ (gd_ hτ o ds pn S side e fp hr hs) hf ho h
def wpL (P:Program) (ds:Dn) (pn:Pn) (ops:Array Oper) (l:List Oper) (Q:Exit→St→Prop) (S:Kp2 (P,ds,pn) (ops,l,Q)):Prop :=
 ∀ w0 I0 F I β a w,Rel ds w0 I0 F S I β a w→wpListIn (fO ds.ro) 1 P ops (sr_ P ds pn w0 I0 F Q) l a w
theorem Eq_ {P:Program} {ds:Dn} {pn:Pn} {τ:Tab} (hτ:ay_ P τ) {ops:Array Oper} {l:List Oper} {Q:Exit→St→Prop} {S:St} (h:vcOps P ds pn τ (ops.toList.map (·.dst)) (fun _ S'=>Q .normal S') l S []):wpL P ds pn ops l Q S:=fun w0 I0 F I β a w hr =>
 gL_ (ops:=ops) (K:=fun _ S'=>Q .normal S') (fun ch a w hok hp=>⟨hok,hp⟩) l S [] I β a w (vcOps.run hτ l S [] h) hr fun _ S' I' β' a' w' hq hr'=>⟨S',I',β',hq,hr'⟩
theorem Dp_ {P:Program} {ds:Dn} {pn:Pn} {ops:Array Oper} {l:List Oper} {Q:Exit→St→Prop} {S S':St} (hw:Wk S S') (h:wpL P ds pn ops l Q S'):wpL P ds pn ops l Q S:=fun w0 I0 F I β a w hr=>by
 obtain⟨I',β',hr'⟩:=hw _ _ _ _ _ _ _ _ hr
 exact h w0 I0 F I' β' a w hr'
end Go.Xe
namespace Go.Xe
open Go.RowKit
variable [Glob]
end Go.Xe
namespace Go.Xe
open Go.RowKit
variable [Glob]
theorem yh_ {P:Program} {ds:Dn} {pn:Pn} {o:Oper} {rest:St→Prop} {S:St} {e:Eff} {fp:List Nat} (hl:LCore P ds pn o S e fp) (hf:bY_ S e.add) (h:rest (S.app o.dst e)):vcX P ds pn o rest S :=
 ⟨fun S2=>S2=S.app o.dst e,fun w0 I0 F I β a w hr next Q hn hp=>hl S ⟨fun _ _=>rfl,fun _ _=>rfl,fun _ _=>rfl⟩ ((b5_ _).1 hf) w0 I0 F I β a w hr next Q (fun I' β' a' w' hr'=>hn _ I' β' a' w' rfl hr') hp,fun _ e=>e▸h⟩
theorem vcX.yield {P:Program} {ds:Dn} {pn:Pn} {o:Oper} {S:St} {rest:St→Prop} {fx:Operand} {args:Array Operand} {ts:Array TypeId} {l:Nat} {xs:List D}
  {p p':Value→World→(Nat→Prop)→Prop} {b:Bool} (hy:YieldOk P l xs p p' b) (k k':Nat) (ho:o.op=.call ⟨.value fx,args,ts⟩) (hf:S.ev fx=.d (.v (.func (.yield l) #[] #[])))
  (hargs:(args.toList.map S.ev).map norm=xs.map .d) (hk:getB S.bx k=some (.opq p)) (hne:k≠k') (hfr:S.has k'=false)
  (h:rest (S.app o.dst ⟨.d (.v (.bool b)),[k],[],[(k',.opq p')]⟩)):vcX P ds pn o rest S:=by
 obtain⟨e,fp,h1,h2,h3⟩:=vcStop.yield (ds:=ds) (pn:=pn) (acc:=[]) (rest:=fun S2 _=>rest S2) hy k k' ho hf hargs hk hne hfr h
 exact yh_ h1 h2 h3
def vcXG (P:Program) (ds:Dn) (pn:Pn) (G:List (Option Tmp)) (o:Oper) (rest:St→Prop) (S:Kp2 (P,ds,o) (rest,pn)):Prop :=
 match o.guard with
 | none=>False
 | some (j,want)=>∃ g,((gL G j).bind fun t=>lo_ want (S.at t))=some g∧(g=true→vcX P ds pn o rest (S.under true))∧(g=false→∃ v,rest (S.put o.dst (.when false v)))
theorem vcXG.mk {P:Program} {ds:Dn} {pn:Pn} {G:List (Option Tmp)} {o:Oper} {rest:St→Prop} {S:St} {j:Nat} {want:Bool} (hg:o.guard=some (j,want)) (g:Bool) (hb:((gL G j).bind fun t=>lo_ want (S.at t))=some g)
  (ht:g=true→vcX P ds pn o rest (S.under true)) (hf:g=false→∃ v,rest (S.put o.dst (.when false v))):vcXG P ds pn G o rest S:=by
 unfold vcXG
 rw[hg]
 exact⟨g,hb,ht,hf⟩
theorem hA_ {w:World} {I:Nat→Prop} {β:Nat→Value} {v v':AV} (hl:Leq v v'):∀ {sl:List AV} {t:Nat} {vs:List Value},DenAs w I β (sl.set t v) vs→DenAs w I β (sl.set t v') vs
 | [],_,_,h=>h
 | x::sl,0,vs,h=>by
  obtain⟨y,ys,e,h1,h2⟩:=h
  exact⟨y,ys,e,hl _ _ _ _ h1,h2⟩
 | x::sl,t+1,vs,h=>by
  obtain⟨y,ys,e,h1,h2⟩:=h
  exact⟨y,ys,e,h1,hA_ hl h2⟩
theorem LCore.leq {P:Program} {ds:Dn} {pn:Pn} {o:Oper} {S:St} {v v':AV} {fp:List Nat} (h:LCore P ds pn o S ⟨v,[],[],[]⟩ fp) (hl:Leq v v'):LCore P ds pn o S ⟨v',[],[],[]⟩ fp:=by
 intro S1 hs hf w0 I0 F I β a w hr next Q hn hp
 refine h S1 hs hf w0 I0 F I β a w hr next Q (fun I' β' a' w' hr'=>hn I' β' a' w' ?_) hp
 cases hd:o.dst with
 | none=>rw[hd] at hr';exact hr'
 | some t =>
  rw[hd] at hr'
  exact⟨hr'.mem,hA_ hl hr'.sl,hr'.dn,hr'.fx⟩
end Go.Xe
