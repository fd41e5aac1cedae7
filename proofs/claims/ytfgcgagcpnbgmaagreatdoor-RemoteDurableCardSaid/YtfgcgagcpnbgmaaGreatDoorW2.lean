/-
  Joined texts.
-/
import Derived.Test.YtfgcgagcpnbgmaaGreatDoorW1
set_option linter.unusedVariables false
set_option linter.unusedSimpArgs false
set_option linter.unusedSectionVars false
namespace Go.Xe
open Go.RowKit
variable [Glob]
/-! ### new memory that nobody will write -/
theorem Mem.share {w0:World} {I0 F:Nat→Prop} {bx:Bxs} {I:Nat→Prop} {β:Nat→Value} {w w':World} (h:Mem w0 I0 F bx I β w) (hg:Gb w w' none) :
  Mem w0 I0 F bx (fun n=>I n∨(w.heap.size≤n∧n<w'.heap.size)) β w':=by
 have h1:=h.world hg (r:=none) (by simp) (bx':=bx) (fun k b hk=>⟨hk,.inl rfl⟩)
 have hk:Kept w' I w' (fun n=>I n∨(w.heap.size≤n∧n<w'.heap.size)):=⟨fun _ h=>.inl h,fun _ _=>rfl⟩
 refine⟨fun k b hkb=>BoxRel.mono hk (fun _ _=>rfl) (fun _ _=>rfl) (h1.bxs k b hkb),fun k b n hkb hn=>⟨?_,(h1.sep k b n hkb hn).2⟩,h1.inj,fun n hn=>?_,fun n hn=>?_,h1.kept.trans hk,h1.fr,h1.sz,h1.os,h1.tape,h1.out,h1.dr,h1.gl⟩
 ·rintro (hI|⟨h2,_⟩)
  ·exact (h1.sep k b n hkb hn).1 hI
  ·have:=(h.bxs k b hkb).lt hn;omega
 ·rcases hn with hn|hn
  ·exact h1.im n hn
  ·exact hn.2
 ·rcases hn with hn|hn
  ·exact h1.inew n hn
  ·exact .inr (.inr (Nat.le_trans h.sz hn.1))
theorem qC_ {w w':World} {I:Nat→Prop} (hI:∀ n,I n→n<w.heap.size) (hg:Gb w w' none):Kept w I w' (fun n=>I n∨(w.heap.size≤n∧n<w'.heap.size)) :=
 ⟨fun _ h=>.inl h,fun n hn=>hg.block n (hI n hn) (by simp)⟩
theorem Rel.share {ds:Dn} {w0:World} {I0 F:Nat→Prop} {S:St} {I:Nat→Prop} {β:Nat→Value} {a:Act} {w w':World} (hr:Rel ds w0 I0 F S I β a w) (hg:Gb w w' none) :
  Rel ds w0 I0 F S (fun n=>I n∨(w.heap.size≤n∧n<w'.heap.size)) β a w' :=
 ⟨hr.mem.share hg,DenAs.mono (qC_ hr.mem.im hg) _ _ (fun _ _=>rfl) hr.sl,hr.dn,hr.fx⟩
/-! ### bytes -/
def aN_ (b:UInt8):D:=.v (.int .u8 b.toNat)
def DV_:Value→UInt8
 | .int _ n=>UInt8.ofNat n.toNat
 | _=>0
def yR_:D→UInt8
 | .v x=>DV_ x
 | _=>0
def unB:AV→UInt8
 | .d x=>yR_ x
 | _=>0
theorem fi_ (b:UInt8):yR_ (aN_ b)=b:=by simp[yR_,aN_,DV_]
theorem rp_ (b:UInt8):unB (.d (aN_ b))=b:=fi_ b
theorem uO_ (l:List UInt8):(l.map aN_).map yR_=l:=by
 rw[List.map_map];conv=>rhs;rw[← List.map_id l]
 exact List.map_congr_left fun b _=>fi_ b
theorem qM_ (l:List UInt8):∀ acc:ByteArray,(l.map fun b=>((b.toNat:Nat):Int)).foldl (fun r n=>r.push (UInt8.ofNat n.toNat)) acc=⟨acc.data++l.toArray⟩:=by
 induction l with
 | nil=>intro acc;simp
 | cons b l ih =>
  intro acc
  simp only[List.map_cons,List.foldl_cons,Int.toNat_natCast,UInt8.ofNat_toNat]
  rw[ih]
  congr 1
  simp[ByteArray.push]
theorem rW_ {P:Program} {w:World} {ad:Addr} {n cap:Nat} (l:List UInt8) (hl:l.length=n) (hc:∀ j v,(l.map fun b=>Value.int .u8 b.toNat)[j]? = some v→w.cell? (ad.add j)=some v) :
  (Conv.bytesToString (.slice (some ad) n cap)).run P w=.ok (.string ⟨l.toArray⟩) w:=by
 have h1:=run_loadCells_list (P:=P) w ad (l.map fun b=>Value.int .u8 b.toNat) hc
 rw[List.length_map,hl] at h1
 have h2:=run_bytesToString (P:=P) w ad n cap (l.map fun b=>((b.toNat:Nat):Int)) (by rw[h1,List.map_map];rfl)
 rw[h2,qM_]
 simp[ByteArray.empty,ByteArray.emptyWithCapacity]
 rfl
def p3_ (bx:Bxs) (sz0:Nat):AV→Option (Nat×Nat×List AV×List Nat)
 | .d (.sl sz cs m _)=>some (m,sz,cs.map .d,[])
 | .row j=>match getB bx j with
  | some (.row _ sz m cs)=>some (m,sz,cs,[j])
  | _=>none
 | .psl k off m _=>match getB bx k with
  | some (.cells _ cs)=>some (m,sz0,(cs.drop off).take (m*sz0),[k])
  | _=>none
 | .d (.v (.slice none 0 0))=>some (0,sz0,[],[])
 | _=>none
theorem i1_ {bx bx':Bxs} {sz0:Nat} {x:AV} {m sz:Nat} {cs:List AV} {fp:List Nat} (h:p3_ bx sz0 x=some (m,sz,cs,fp)) (hb:∀ k∈fp,getB bx' k=getB bx k):p3_ bx' sz0 x=some (m,sz,cs,fp):=by
 unfold p3_ at h ⊢
 split at h
 ·exact h
 ·rename_i j
  split at h
  ·rename_i hj;cases h;simp only[hb j (by simp),hj]
  ·cases h
 ·rename_i k off m' cap
  split at h
  ·rename_i hj;cases h;simp only[hb k (by simp),hj]
  ·cases h
 ·exact h
 ·cases h
theorem rz_ {ds:Dn} {w0:World} {I0 F:Nat→Prop} {S:St} {I:Nat→Prop} {β:Nat→Value} {a:Act} {w:World} (hr:Rel ds w0 I0 F S I β a w) {sz0:Nat} {x:Operand} {m sz:Nat} {cs:List AV} {fp:List Nat}
  (h:p3_ S.bx sz0 (S.ev x)=some (m,sz,cs,fp)) (hlen:cs.length=m*sz):∃ (ad:Option Addr) (c:Nat) (us:List Value),a.eval x=.slice ad m c∧DenAs w I β cs us∧(∀ u∈us,u.oneCell'=true) ∧
   (ad=none→m=0∧c=0)∧∀ b,ad=some b→∀ j u,us[j]? = some u→w.cell? (b.add j)=some u:=by
 have hv:=hr.ev x
 unfold p3_ at h
 split at h
 ·rename_i sz' cs' m' full hx
  cases h
  rw[hx,DenA,Den] at hv
  obtain⟨ad,cap,e1,h1,h2,h3,h4,h5,h6⟩:=hv
  cases ad with
  | none =>
   obtain⟨rfl,rfl⟩:=h5 rfl
   have:cs'=[]:=List.eq_nil_of_length_eq_zero (by simpa using h4)
   subst this
   exact⟨none,0,[],e1,rfl,by simp,fun _=>⟨rfl,rfl⟩,by simp⟩
  | some b =>
   obtain⟨hsp,hat⟩:=h6 b rfl
   obtain⟨us,hd,ho,hc⟩:=hat.dens
   refine⟨some b,cap,us,e1,DenAs.of_dens hd,ho,by simp,fun b' hb' j u hu=>?_⟩
   cases hb'
   have hm0:0<m:=by
    rcases Nat.eq_zero_or_pos m with h0|h0
    ·have hl:=hd.length
     have:=(List.getElem?_eq_some_iff.1 hu).1
     rw[h0] at h4
     omega
    ·exact h0
   have hsp:=hsp hm0
   obtain⟨bb,off,sp⟩:=b
   simp only at hsp;subst hsp
   rw[Addr.add_lit];exact hc j u hu
 ·rename_i j hx
  split at h
  ·rename_i T sz' m' cs' hb
   cases h
   rw[hx,DenA] at hv
   obtain⟨us,how,hd,ho⟩:=hr.mem.bxs j _ hb
   rw[hv.1]
   rcases how.2 with⟨hnil,hz⟩|⟨g,cap,cur,hy,_⟩
   ·subst hz
    have:us=[]:=List.eq_nil_of_length_eq_zero (by simpa using how.1)
    subst this
    exact⟨none,0,[],hnil,hd,ho,fun _=>⟨rfl,rfl⟩,by simp⟩
   ·refine⟨some ⟨g,0,none⟩,cap,us,hy,hd,ho,by simp,fun b' hb' i u hu=>?_⟩
    cases hb'
    exact how.cells (by rw[hy];rfl) i u hu
  ·cases h
 ·rename_i k off m' cap hx
  split at h
  ·rename_i T cs' hb
   cases h
   rw[hx] at hv
   obtain⟨b,e1,e2⟩:=hv
   obtain⟨b',vs,e3,hh,hd,ho⟩:=hr.mem.bxs k _ hb
   rw[e1] at e3;cases e3
   refine⟨some ⟨b,off,none⟩,cap,(vs.drop off).take (m*sz0),e2,(hd.drop off).take _,fun u hu=>ho u (List.mem_of_mem_drop (List.mem_of_mem_take hu)),by simp,fun b' hb' i u hu=>?_⟩
   cases hb'
   rw[Addr.add_lit,cell_of_row w b (off+i) _ _ _ hh]
   simp only[List.getElem?_take,List.getElem?_drop] at hu
   split at hu
   ·simpa using hu
   ·cases hu
  ·cases h
 ·rename_i hx
  cases h
  rw[hx,DenA_v] at hv
  exact⟨none,0,[],hv,rfl,by simp,fun _=>⟨rfl,rfl⟩,by simp⟩
 ·cases h
theorem pJ_ {w:World} {I:Nat→Prop} {β:Nat→Value}:∀ {cs:List AV} {us:List Value},DenAs w I β cs us→(∀ c∈cs,c=.d (aN_ (unB c)))→us=(cs.map unB).map fun b=>Value.int .u8 b.toNat
 | [],_,h,_=>by rw[DenAs] at h;subst h;rfl
 | c::cs,_,h,h3=>by
  obtain⟨v,vs,rfl,hv,hd⟩:=h
  have:=h3 c (by simp)
  rw[this,aN_,DenA_v] at hv
  subst hv
  rw[pJ_ hd (fun c hc=>h3 c (by simp[hc]))]
  rfl
/-! ### convert -/
def xZ_ (τ:Tab) (bx:Bxs) (src dst:TypeId) (x:AV):OpR :=
 match τ dst with
 | some ⟨.int k,_,_,_⟩=>match x with
  | .d (.v (.int _ n))=>some ((τ src).isSome=true,⟨.d (.v (.int k (k.wrap n))),[],[],[]⟩,[])
  | _=>none
 | some ⟨.string,_,_,_⟩=>match τ src with
  | some ⟨.string,_,_,_⟩=>match x with
   | .d (.v (.string s))=>okV (.d (.v (.string s)))
   | _=>none
  | some ⟨.slice e,_,_,_⟩=>match τ e with
   | some ⟨.int .u8,_,_,_⟩=>(p3_ bx 1 x).bind fun r=>some (r.2.1=1∧r.2.2.1.length=r.1*r.2.1∧(∀ c∈r.2.2.1,c=.d (aN_ (unB c))),⟨.d (.v (.string ⟨(r.2.2.1.map unB).toArray⟩)),[],[],[]⟩,r.2.2.2)
   | _=>none
  | _=>none
 | some ⟨.slice e,_,_,_⟩=>match τ e,τ src with
  | some ⟨.int .u8,_,_,_⟩,some ⟨.string,_,_,_⟩=>match x with
   | .d (.v (.string s))=>some (s.size≤140737488355328,⟨.d (.sl 1 (s.data.toList.map aN_) s.size false),[],[],[]⟩,[])
   | _=>none
  | _,_=>none
 | _=>none
def o7_ (τ:Tab) (src dst:TypeId) (x:Operand) (S:St):OpR:=xZ_ τ S.bx src dst (S.ev x)
theorem jo_ (w:World) (c:Array Value) (T:TypeId) (off:Nat):((w.alloc (.cells c T)).freeze ⟨w.heap.size,off,none⟩ 1).heap[w.heap.size]? = some (.cells c T (off,off+1)):=by
 simp only[World.freeze,Nat.one_ne_zero,if_false,Array.getElem?_modify,if_true,heap_alloc_new]
 rfl
theorem qL_ (w:World) (c:Array Value) (T:TypeId) (off:Nat):Gb w ((w.alloc (.cells c T)).freeze ⟨w.heap.size,off,none⟩ 1) none:=by
 have h:=Gb.alloc w (.cells c T) none
 refine⟨⟨h.os,h.tape,h.output,?_,fun k hk _=>?_⟩,h.dr⟩
 ·simp only[World.freeze,Nat.one_ne_zero,if_false,Array.size_modify];exact h.size
 ·simp only[World.freeze,Nat.one_ne_zero,if_false,Array.getElem?_modify]
  rw[if_neg (by omega)]
  exact h.block k hk (by simp)
theorem bC_ (w:World) {w':World} {r:Option Nat} (h:Gb w.drew w' r):Gb w w' r:=⟨⟨h.os,h.tape,h.output,h.size,h.block⟩,Nat.le_trans (Nat.le_succ _) h.dr⟩
theorem fp_ {P:Program} (w:World) (e:TypeId) (s:ByteArray):∃ cap w',s.size≤cap∧(s.size≤140737488355328→cap≤maxLen) ∧
  (Conv.stringToBytes e s).run P w=.ok (.slice (some ⟨w.heap.size,0,none⟩) s.size cap) w'∧Gb w w' none∧w.heap.size<w'.heap.size ∧
  ∀ j v,(s.data.toList.map fun b=>Value.int .u8 b.toNat)[j]? = some v→w'.cell? ⟨w.heap.size,j,none⟩=some v:=by
 refine⟨grownCap w s.size 0 e,((w.drew.alloc (.cells (s.data.map (fun b:UInt8=>Value.int .u8 b.toNat)++Array.replicate (grownCap w s.size 0 e-s.size) (Value.int .u8 0)) e)).freeze ⟨w.heap.size,(s.data.map (fun b:UInt8=>Value.int .u8 b.toNat)++Array.replicate (grownCap w s.size 0 e-s.size) (Value.int .u8 0)).size,none⟩ 1),
  grownCap_ge w s.size 0 e,fun h=>grownCap_le_maxLen w s.size 0 e (by simp only[maxLen];omega),?_,bC_ w (qL_ w.drew _ _ _),?_,?_⟩
 ·have hs:∀ (c:Array Value),(w.drew.alloc (.cells c e)).shape? w.heap.size=some (e,c.size):=fun c=>by
   have:(w.drew.alloc (.cells c e)).heap[w.heap.size]? = some (.cells c e):=heap_alloc_new w.drew _
   unfold World.shape?;rw[this]
  simp only[Conv.stringToBytes,newRow,markStringish,Sem.run_bind,run_choose,Question.forced,Bool.false_eq_true,if_false,Result.andThen_ok,run_newObj,World.alloc_eq,World.drew_eq,run_shape,hs,Sem.run_pure,run_freeze,World.size_drew,grownCap]
 ·exact (Array.getElem?_eq_some_iff.1 (jo_ w.drew _ e _)).1
 ·intro j v hj
  refine (cell_of_row _ _ _ _ _ _ (jo_ w.drew _ e _)).trans ?_
  simp only[List.getElem?_map,Array.getElem?_toList] at hj
  rw[Array.getElem?_append]
  cases hjj:s.data[j]? with
  | none=>rw[hjj] at hj;cases hj
  | some b =>
   rw[hjj] at hj
   have hlt:=(Array.getElem?_eq_some_iff.1 hjj).1
   rw[if_pos (by simpa using hlt),Array.getElem?_map,hjj]
   exact hj
theorem ng_ {P:Program} {τ:Tab} (hτ:aq_ P τ) {o:Oper} {src dst:TypeId} {x:Operand} (ho:o.op=.convert src dst x):aS_ P o (o7_ τ src dst x):=by
 intro ds pn S side e fp h hside S1 hs _
 have ex:=hs.1 x (by simp[ho,Op.operands])
 unfold o7_ xZ_ at h
 rw[← ex] at h
 split at h
 ·rename_i k _ _ _ ht
  obtain⟨d,hu,hk⟩:=(hτ dst _ ht).und
  simp only[TK.ok] at hk
  subst hk
  split at h
  ·rename_i k' n hx
   cases h
   cases hts:τ src with
   | none=>rw[hts] at hside;cases hside
   | some te =>
    obtain⟨d,hus,_⟩:=(hτ src te hts).und
    refine Core.value fun w0 I0 F I β a w hr=>⟨_,?_,DenA_v.2 rfl⟩
    have hv:=hr.ev x
    rw[hx,DenA_v] at hv
    simp[execOp,ho,convert,run_underlying hu,run_underlying hus,hv,Conv.intToInt]
  ·cases h
 ·rename_i _ _ _ ht
  obtain⟨d,hu,hk⟩:=(hτ dst _ ht).und
  simp only[TK.ok] at hk
  subst hk
  split at h
  ·rename_i _ _ _ hts
   obtain⟨d,hus,hk⟩:=(hτ src _ hts).und
   simp only[TK.ok] at hk
   subst hk
   split at h
   ·rename_i s hx
    cases h
    refine Core.value fun w0 I0 F I β a w hr=>⟨_,?_,DenA_v.2 rfl⟩
    have hv:=hr.ev x
    rw[hx,DenA_v] at hv
    simp[execOp,ho,convert,run_underlying hu,run_underlying hus,hv]
   ·cases h
  ·rename_i el _ _ _ hts
   obtain⟨d,hus,hk⟩:=(hτ src _ hts).und
   simp only[TK.ok] at hk
   subst hk
   split at h
   ·rename_i _ _ _ hte
    obtain⟨d,hue,hk⟩:=(hτ el _ hte).und
    simp only[TK.ok] at hk
    subst hk
    cases hsrc:p3_ S.bx 1 (S1.ev x) with
    | none=>rw[hsrc] at h;cases h
    | some r =>
     obtain⟨m,sz,cs,fp'⟩:=r
     rw[hsrc] at h
     cases h
     obtain⟨h1,h2,h3⟩:=hside
     simp only at h1 h2 h3
     subst h1
     have hsrc1:=i1_ hsrc (fun k hk=>hs.2.2 k hk)
     refine Core.value fun w0 I0 F I β a w hr=>⟨_,?_,DenA_v.2 rfl⟩
     obtain⟨ad,c,us,e1,hd,_,hnil,hc⟩:=rz_ hr hsrc1 h2
     have hus':=pJ_ hd h3
     cases ad with
     | none =>
      obtain⟨rfl,rfl⟩:=hnil rfl
      have:cs=[]:=List.eq_nil_of_length_eq_zero (by simpa using h2)
      subst this
      simp[execOp,ho,convert,run_underlying hu,run_underlying hus,run_underlying hue,e1,Conv.bytesToString]
      rfl
     | some b =>
      have hc:=hc b rfl
      rw[hus'] at hc
      simp[execOp,ho,convert,run_underlying hu,run_underlying hus,run_underlying hue,e1,rW_ (P:=P) (w:=w) (ad:=b) (n:=m) (cap:=c) (cs.map unB) (by simpa using h2) hc]
   ·cases h
  ·cases h
 ·rename_i el _ _ _ ht
  obtain⟨d,hu,hk⟩:=(hτ dst _ ht).und
  simp only[TK.ok] at hk
  subst hk
  split at h
  ·rename_i _ _ _ _ _ _ hte hts
   obtain⟨d,hue,hk⟩:=(hτ el _ hte).und
   simp only[TK.ok] at hk
   subst hk
   obtain⟨d,hus,hk⟩:=(hτ src _ hts).und
   simp only[TK.ok] at hk
   subst hk
   split at h
   ·rename_i s hx
    cases h
    refine Core.world fun w0 I0 F I β a w hr=>?_
    have hv:=hr.ev x
    rw[hx,DenA_v] at hv
    obtain⟨cap,w',hcap,hmax,hrun,hg,hlt,hcells⟩:=fp_ (P:=P) w el s
    refine⟨.slice (some ⟨w.heap.size,0,none⟩) s.size cap,w',(fun n=>I n∨(w.heap.size≤n∧n<w'.heap.size)),β,by simp[execOp,ho,convert,run_underlying hu,run_underlying hus,run_underlying hue,hv,hrun],?_⟩
    refine Rel.put (hr.share hg) o.dst ?_
    rw[DenA,Den]
    refine⟨_,cap,rfl,hcap,hmax hside,by simp,by simp,by simp,fun ad had=>?_⟩
    cases had
    refine⟨fun _=>rfl,?_⟩
    refine DenAt.of_dens (vs:=s.data.toList.map fun b=>Value.int .u8 b.toNat) (.inr ⟨Nat.le_refl _,hlt⟩) ?_ ?_ ?_
    ·generalize s.data.toList=l
     induction l with
     | nil=>rfl
     | cons b l ih=>exact⟨_,_,rfl,by rw[aN_,Den],ih⟩
    ·intro v hv;simp only[List.mem_map] at hv;obtain⟨b,_,rfl⟩:=hv;rfl
    ·intro j v hj
     rw[Nat.zero_add];exact hcells j v hj
   ·cases h
  ·cases h
 ·cases h
end Go.Xe
namespace Go.Xe
open Go.RowKit
variable [Glob]
theorem aw_ {P:Program} {o:Oper} {b:Builtin} {args:Array Operand} {ts:Array TypeId} (ho:o.op=.call ⟨.builtin b,args,ts⟩) :
  ∃ C,∀ (a:Act) (w:World),(execOp a.eval o).run P w=(builtin b ts o.type C (args.map a.eval)).run P w :=
 ⟨_,fun a w=>by simp only[execOp,ho,resolve,Sem.run_bind,Sem.run_pure,Result.andThen_ok,invoke];rfl⟩
/-! ### len, cap -/
def De_ (bx:Bxs):AV→OpR
 | .d (.sl _ _ n _)=>okV (.d (.v (.int .i64 n)))
 | .d (.v (.slice _ n _))=>okV (.d (.v (.int .i64 n)))
 | .d (.v (.string s))=>okV (.d (.v (.int .i64 s.size)))
 | .psl _ _ n _=>okV (.d (.v (.int .i64 n)))
 | .rsl _ _ n=>okV (.d (.v (.int .i64 n)))
 | .row k=>match getB bx k with
  | some (.row _ _ n _)=>some (True,⟨.d (.v (.int .i64 n)),[],[],[]⟩,[k])
  | _=>none
 | _=>none
def uF_ (τ:Tab) (T:TypeId) (x:Operand) (S:St):OpR :=
 match τ T with
 | some ⟨.slice _,_,_,_⟩=>match S.ev x with
  | .d (.v (.string _))=>none
  | y=>De_ S.bx y
 | some ⟨.string,_,_,_⟩=>match S.ev x with
  | .d (.v (.string s))=>okV (.d (.v (.int .i64 s.size)))
  | _=>none
 | _=>none
theorem p9_ {P:Program} {τ:Tab} (hτ:aq_ P τ) {o:Oper} {T:TypeId} {x:Operand} (ho:o.op=.call ⟨.builtin .len,#[x],#[T]⟩):aS_ P o (uF_ τ T x):=by
 intro ds pn S side e fp h hside S1 hs _
 have ex:=hs.1 x (by simp[ho,Op.operands,Call.operands])
 unfold uF_ at h
 rw[← ex] at h
 split at h
 ·rename_i el _ _ _ ht
  obtain⟨d,hu,hk⟩:=(hτ T _ ht).und
  simp only[TK.ok] at hk
  subst hk
  have run:∀ (a:Act) (w:World) (ad:Option Addr) (n c:Nat),a.eval x=.slice ad n c→(execOp a.eval o).run P w=.ok (.value (.int .i64 n)) w:=by
   intro a w ad n c he
   obtain⟨C,hC⟩:=aw_ (P:=P) ho
   rw[hC]
   simp[builtin,Builtin.len_,run_underlying hu,he,goInt]
  split at h
  ·cases h
  ·rename_i y hy
   unfold De_ at h
   split at h
   ·rename_i sz cs n full hx
    cases h
    refine Core.value fun w0 I0 F I β a w hr=>?_
    have hv:=hr.ev x
    rw[hx,DenA,Den] at hv
    obtain⟨ad,cap,e1,_⟩:=hv
    exact⟨_,run a w ad n cap e1,DenA_v.2 rfl⟩
   ·rename_i ad n c hx
    cases h
    refine Core.value fun w0 I0 F I β a w hr=>?_
    have hv:=hr.ev x
    rw[hx,DenA_v] at hv
    exact⟨_,run a w ad n c hv,DenA_v.2 rfl⟩
   ·rename_i s hx
    exact (hy s hx).elim
   ·rename_i k off n cap hx
    cases h
    refine Core.value fun w0 I0 F I β a w hr=>?_
    have hv:=hr.ev x
    rw[hx] at hv
    obtain⟨b,_,e2⟩:=hv
    exact⟨_,run a w _ n cap e2,DenA_v.2 rfl⟩
   ·rename_i k off n hx
    cases h
    refine Core.value fun w0 I0 F I β a w hr=>?_
    have hv:=hr.ev x
    rw[hx] at hv
    obtain⟨b,m',c,c',_,e2⟩:=hv
    exact⟨_,run a w _ n c' e2,DenA_v.2 rfl⟩
   ·rename_i k hx
    split at h
    ·rename_i T' sz n cs hb
     cases h
     have hb1:getB S1.bx k=some (.row T' sz n cs):=by rw[hs.2.2 k (by simp)];exact hb
     refine Core.value fun w0 I0 F I β a w hr=>?_
     have hv:=hr.ev x
     rw[hx,DenA] at hv
     obtain⟨vs,how,_,_⟩:=hr.mem.bxs k _ hb1
     rcases how.2 with⟨hnil,rfl⟩|⟨g,cap,cur,hyv,_⟩
     ·exact⟨_,run a w _ _ _ (hv.1.trans hnil),DenA_v.2 rfl⟩
     ·exact⟨_,run a w _ _ _ (hv.1.trans hyv),DenA_v.2 rfl⟩
    ·cases h
   ·cases h
 ·rename_i _ _ _ ht
  obtain⟨d,hu,hk⟩:=(hτ T _ ht).und
  simp only[TK.ok] at hk
  subst hk
  split at h
  ·rename_i s hx
   cases h
   refine Core.value fun w0 I0 F I β a w hr=>⟨_,?_,DenA_v.2 rfl⟩
   have hv:=hr.ev x
   rw[hx,DenA_v] at hv
   obtain⟨C,hC⟩:=aw_ (P:=P) ho
   rw[hC]
   simp[builtin,Builtin.len_,run_underlying hu,hv,goInt]
  ·cases h
 ·cases h
/-! ### min, max of two integers -/
def mmA (mx:Bool) (x y:AV):OpR :=
 match x,y with
 | .d (.v (.int k a)),.d (.v (.int _ b))=>okV (.d (.v (.int k (match mx with|true=>max a b|false=>min a b))))
 | _,_=>none
def zt_ (mx:Bool) (x y:Operand) (S:St):OpR:=mmA mx (S.ev x) (S.ev y)
theorem ld_ {P:Program} {o:Oper} {ts:Array TypeId} {x y:Operand} (mx:Bool) (ho:o.op=.call ⟨.builtin (match mx with|true=>.max|false=>.min),#[x,y],ts⟩):aS_ P o (zt_ mx x y):=by
 intro ds pn S side e fp h hside S1 hs _
 have ex:=hs.1 x (by cases mx<;>simp[ho,Op.operands,Call.operands])
 have ey:=hs.1 y (by cases mx<;>simp[ho,Op.operands,Call.operands])
 unfold zt_ mmA at h
 rw[← ex,← ey] at h
 split at h
 ·rename_i k a k' b hx hy
  cases h
  refine Core.value fun w0 I0 F I β A w hr=>⟨_,?_,DenA_v.2 rfl⟩
  have h1:=hr.ev x
  have h2:=hr.ev y
  rw[hx,DenA_v] at h1
  rw[hy,DenA_v] at h2
  obtain⟨C,hC⟩:=aw_ (P:=P) ho
  rw[hC]
  cases mx with
  | true =>
   simp[builtin,Builtin.max_,h1,h2,Builtin.max2]
   rw[Int.max_def];split<;>split<;>omega
  | false =>
   simp[builtin,Builtin.min_,h1,h2,Builtin.min2]
   rw[Int.min_def];split<;>split<;>omega
 ·cases h
/-! ### append -/
theorem cA_ {P:Program} (w:World) {t ty e:TypeId} {i:TypeInfo} {z:Value} {size bytes:Nat} (ht:P.underlying t=some (.slice e)) (hi:P.info? e=some i) (hz:i.zero=some z)
  (hsize:i.size=size) (hby:i.bytes=bytes) (hzs:z.cells.size=size)
  {v:Value} {n:Nat} {xs:List Value} (hown:w.ownsRow 0 e size v n xs)
  {ad:Option Addr} {m c:Nat} {news:List Value} (hl:news.length=m*size) (hnil:ad=none→m=0∧c=0) (hnews:∀ b,ad=some b→∀ j u,news[j]? = some u→w.cell? (b.add j)=some u) (h1:∀ u∈news,u.oneCell'=true)
  (h63:n+m≤maxLen) (hbytes:(n+m)*bytes≤140737488355328) :
  ∃ v' w',(Builtin.append_ #[t,t] ty #[v,.slice ad m c]).run P w=.ok v' w'∧w'.ownsRow 0 e size v' (n+m) (xs++news)∧Gb w w' v.ownBlock∧(v'.ownBlock=v.ownBlock∨∀ g,v'.ownBlock=some g→w.heap.size≤g):=by
 subst hsize
 subst hby
 have hsmall:n+m≤9223372036854775807:=by simp only[maxLen] at h63;omega
 have hlen:(xs++news).length=(n+m)*i.size:=by rw[List.length_append,hown.1,hl,Nat.add_mul]
 cases ad with
 | none =>
  obtain⟨rfl,rfl⟩:=hnil rfl
  have hn:news=[]:=List.eq_nil_of_length_eq_zero (by simpa using hl)
  subst hn
  refine⟨v,w,?_,by simpa using hown,⟨⟨rfl,rfl,rfl,Nat.le_refl _,fun _ _ _=>rfl⟩,Nat.le_refl _⟩,.inl rfl⟩
  rcases hown.2 with⟨rfl,rfl⟩|⟨g,cap,cur,rfl,_,hg,hnc,hcm,hcs,htk⟩
  ·simp[Builtin.append_,run_underlying ht,sizeOf,typeInfo,hi,Builtin.lenOf,Builtin.firstCells]
  ·simp[Builtin.append_,run_underlying ht,sizeOf,typeInfo,hi,Builtin.lenOf,Builtin.firstCells,hnc,storeCells]
 | some b =>
  have hnews:=hnews b rfl
  have grown:∀ (old:Nat),
    (w.drew.alloc (.cells (xs.toArray++news.toArray++Builtin.zeroCells z.cells (grownCap w (n+m) old e-(n+m))) e)).ownsRow 0 e i.size
     (.slice (some ⟨w.heap.size,0,none⟩) (n+m) (grownCap w (n+m) old e)) (n+m) (xs++news) ∧
    ∀ row,Gb w (w.drew.alloc (.cells (xs.toArray++news.toArray++Builtin.zeroCells z.cells (grownCap w (n+m) old e-(n+m))) e)) row:=by
   intro old
   have hge:=grownCap_ge w (n+m) old e
   have hcm:grownCap w (n+m) old e≤maxLen:=grownCap_le_maxLen w (n+m) old e h63
   refine⟨⟨hlen,.inr ⟨w.heap.size,_,_,rfl,Nat.zero_le _,heap_alloc_new w.drew _,hge,hcm,?_,?_⟩⟩,fun row=>bC_ w (Gb.alloc w.drew _ row)⟩
   ·simp only[Array.size_append,List.size_toArray,size_zeroCells,hzs,hown.1,hl,← Nat.add_mul]
    congr 1
    omega
   ·simp only[Array.toList_append,List.append_assoc]
    rw[← List.append_assoc,← hlen]
    exact List.take_left
  have fresh:∀ (cap:Nat) g,Value.ownBlock (.slice (some ⟨w.heap.size,0,none⟩) (n+m) cap)=some g→w.heap.size≤g:=fun cap g hg=>by simp[Value.ownBlock] at hg;omega
  rcases hown.2 with⟨rfl,rfl⟩|⟨g,cap,cur,rfl,_,hg,hnc,hcm,hcs,htk⟩
  ·have hx:xs=[]:=List.eq_nil_of_length_eq_zero (by simpa using hown.1)
   subst hx
   by_cases hm:m=0
   ·subst hm
    have hn:news=[]:=List.eq_nil_of_length_eq_zero (by simpa using hl)
    subst hn
    refine⟨.slice none 0 0,w,?_,World.ownsRow_nil w 0 e i.size,⟨⟨rfl,rfl,rfl,Nat.le_refl _,fun _ _ _=>rfl⟩,Nat.le_refl _⟩,.inl rfl⟩
    simp[Builtin.append_,run_underlying ht,sizeOf,typeInfo,hi,Builtin.lenOf,Builtin.firstCells,loadCells,loadCellsFrom]
   ·have hr:=run_append_nil (P:=P) w t ty e i z ht hi hz b m c news hl hnews (by omega) (by omega) (by have hb:=hbytes;simp only[Nat.zero_add] at hb;omega)
    have hgr:=grown 0
    simp only[Nat.zero_add,List.nil_append,Array.empty_append] at hgr ⊢
    refine⟨_,_,hr,hgr.1,hgr.2 _,.inr fun g hg=>?_⟩
    have:=fresh (grownCap w m 0 e) g
    simp only[Nat.zero_add] at this
    exact this hg
  ·by_cases hroom:n+m≤cap
   ·have hfit:n*i.size+news.length≤cur.size:=by rw[hl,hcs,← Nat.add_mul];exact Nat.mul_le_mul_right _ hroom
    have hr:=run_append_room (P:=P) w t ty e i ht hi g n cap cur hg b m c news hl hnews h1 hroom hfit
    refine⟨_,_,hr,⟨hlen,.inr ⟨g,cap,_,rfl,Nat.zero_le _,setRow_heap w g cur _ e _ hg,hroom,hcm,?_,?_⟩⟩,aU_ w g _,.inl rfl⟩
    ·simp only[List.size_toArray,List.length_append,List.length_take,List.length_drop,Array.length_toList]
     omega
    ·rw[htk,← hlen]
     exact List.take_left
   ·have holds:∀ j u,xs[j]? = some u→w.cell? ((⟨g,0,none⟩:Addr).add j)=some u:=hown.cells (g:=g) rfl
    have hr:=run_append_grow (P:=P) w t ty e i z ht hi hz ⟨g,0,none⟩ n cap xs hown.1 holds b m c news hl hnews (by omega) (by omega) (growslice_fits (by omega) hbytes)
    exact⟨_,_,hr,(grown cap).1,(grown cap).2 _,.inr (fresh _)⟩
def B5_ (bx:Bxs) (E:TypeId) (sz0:Nat):AV→Option (Nat×(Nat×TypeId)×List AV×List Nat×Bool)
 | .row k=>match getB bx k with
  | some (.row T sz n cs)=>some (n,(sz,T),cs,[k],true)
  | _=>none
 | .d (.v (.slice none 0 0))=>some (0,(sz0,E),[],[],true)
 | .d (.sl sz cs n true)=>some (n,(sz,E),cs.map .d,[],false)
 | _=>none
def g1_ (τ:Tab) (dst:Option Tmp) (T:TypeId) (x y:Operand) (S:St):OpR :=
 match dst,τ T with
 | some k,some ⟨.slice E,_,_,_⟩=>(τ E).bind fun te=>(B5_ S.bx E te.size (S.ev x)).bind fun r=>(p3_ S.bx te.size (S.ev y)).bind fun q =>
   some (r.2.1.1=te.size∧r.2.1.2=E∧q.2.1=te.size∧q.2.2.1.length=q.1*te.size∧(r.1+q.1)*(te.bytes+1)≤140737488355328∧(r.2.2.2.2=false→0<q.1)∧(r.2.2.2.1.all fun j => !(q.2.2.2.contains j))=true,
    ⟨.row k,r.2.2.2.1,[],[(k,.row E te.size (r.1+q.1) (r.2.2.1++q.2.2.1))]⟩,r.2.2.2.1++q.2.2.2)
 | _,_=>none
theorem hasL_append {k:Nat}:∀ {a b:List AV},ah_ k (a++b)=(ah_ k a||ah_ k b)
 | [],_=>by simp[ah_]
 | x::a,b=>by simp only[List.cons_append,ah_,hasL_append,Bool.or_assoc]
theorem hasL_d {k:Nat} (l:List D):ah_ k (l.map .d)=false:=by induction l with|nil=>rfl|cons c cs ih=>simp[ah_,AV.has,ih]
theorem hasL_sub {k:Nat}:∀ {l m:List AV},(∀ x∈m,x∈l)→ah_ k l=false→ah_ k m=false:=by
 intro l m hm hl
 have mem:∀ (l:List AV) x,x∈l→ah_ k l=false→AV.has k x=false:=by
  intro l
  induction l with
  | nil=>intro x hx;cases hx
  | cons c cs ih =>
   intro x hx h
   simp only[ah_,Bool.or_eq_false_iff] at h
   rcases List.mem_cons.1 hx with rfl|hx
   ·exact h.1
   ·exact ih x hx h.2
 induction m with
 | nil=>rfl
 | cons c cs ih=>simp only[ah_,mem l c (hm c (by simp)) hl,ih (fun x hx=>hm x (by simp[hx])),Bool.or_self]
theorem srcA_has {S:St} {sz0:Nat} {x:AV} {m sz:Nat} {cs:List AV} {fp:List Nat} (h:p3_ S.bx sz0 x=some (m,sz,cs,fp)) {k:Nat} (hk:dN_ k S.bx=false):ah_ k cs=false:=by
 unfold p3_ at h
 split at h
 ·cases h;exact hasL_d _
 ·split at h
  ·rename_i hb;cases h;exact (hasB_get hk).2 _ _ hb
  ·cases h
 ·split at h
  ·rename_i hb;cases h;exact hasL_sub (fun x hx=>List.mem_of_mem_drop (List.mem_of_mem_take hx)) ((hasB_get hk).2 _ _ hb)
  ·cases h
 ·cases h;rfl
 ·cases h
theorem tO_ (S:St) (dst:Option Tmp) (v:AV) (l:List Nat) (k:Nat) (b:Box):S.app dst ⟨v,l,[],[(k,b)]⟩=(St.mk S.sl (setB (cZ_ S.bx l) k b) S.df).put dst v:=rfl
theorem e2_ {k j:Nat}:∀ {bx:Bxs},dN_ k bx=false→dN_ k (delB bx j)=false
 | [],_=>rfl
 | (i,b)::r,h=>by
  simp only[dN_,Bool.or_eq_false_iff] at h
  simp only[delB]
  split
  ·exact e2_ h.2
  ·simp only[dN_,h.1.1,h.1.2,e2_ h.2,Bool.or_self]
theorem h7_ {k:Nat}:∀ {l:List Nat} {bx:Bxs},dN_ k bx=false→dN_ k (cZ_ bx l)=false
 | [],_,h=>h
 | _::l,_,h=>h7_ (l:=l) (e2_ h)
theorem Rel.appended {ds:Dn} {w0:World} {I0 F:Nat→Prop} {S:St} {I:Nat→Prop} {β:Nat→Value} {a:Act} {w w':World} (hr:Rel ds w0 I0 F S I β a w) {k:Nat} (hf:S.has k=false)
  {l:List Nat} {v v':Value} (hg:Gb w w' v.ownBlock) (hfr:v'.ownBlock=v.ownBlock∨∀ g,v'.ownBlock=some g→w.heap.size≤g)
  (hsl:∃ a n c,v'=.slice a n c) (hv:v.ownBlock=none∨∃ j b,l=[j]∧getB S.bx j=some b∧β j=v∧blk v=v.ownBlock)
  {T:TypeId} {sz n:Nat} {cs:List AV} {us:List Value} (how:w'.ownsRow 0 T sz v' n us) (hd:DenAs w I β cs us) (ho:∀ u∈us,u.oneCell'=true) (hc:ah_ k cs=false) (dst:Option Tmp) :
  Rel ds w0 I0 F (S.app dst ⟨.row k,l,[],[(k,.row T sz n cs)]⟩) I (upd β k v') (a.put dst v') w':=by
 have hk9:=b0_ hf
 have hf':=aF_ hf
 have hrr:∀ n,v.ownBlock=some n→¬ I n∧(F n∨w0.heap.size≤n):=by
  intro n hn
  rcases hv with hv|⟨j,b,_,hb,rfl,hblk⟩
  ·rw[hv] at hn;cases hn
  ·exact hr.mem.sep j b n hb (.inl (by rw[hblk];exact hn))
 have hsub:∀ i b,getB (cZ_ S.bx l) i=some b→getB S.bx i=some b∧(v.ownBlock=none∨∀ n,v.ownBlock=some n→¬ Blk (β i) n):=by
  intro i b hi
  rcases hv with hv|⟨j,b',rfl,hb,rfl,hblk⟩
  ·refine⟨?_,.inl hv⟩
   clear hv
   induction l generalizing i b with
   | nil=>exact hi
   | cons x l ih =>
    have:∀ (l:List Nat) (bx:Bxs) i b,getB (cZ_ bx l) i=some b→getB bx i=some b:=by
     intro l
     induction l with
     | nil=>intro bx i b h;exact h
     | cons y l ih=>intro bx i b h;have:=ih _ i b h;rw[getB_del] at this;split at this;cases this;exact this
    exact this _ _ i b hi
  ·simp only[cZ_] at hi
   rw[getB_del] at hi
   split at hi
   ·cases hi
   ·rename_i hne
    refine⟨hi,?_⟩
    cases hvb:(β j).ownBlock with
    | none=>exact .inl rfl
    | some g =>
     refine .inr fun n e hn=>hne ?_
     cases e
     exact hr.mem.inj j i b' b g hb hi (.inl (hblk.trans hvb)) hn
 have hm:=hr.mem.world hg hrr (bx':=cZ_ S.bx l) hsub
 have hk:Kept w I w' I:=⟨fun _ h=>h,fun n hn=>hg.block n (hr.mem.im n hn) (fun e=>(hrr n e.symm).1 hn)⟩
 have hblk':blk v'=v'.ownBlock:=by obtain⟨x,n,c,rfl⟩:=hsl;cases x<;>rfl
 rw[tO_]
 have hbox:BoxRel w' I (upd β k v') v' (.row T sz n cs):=⟨us,how,DenAs.mono hk _ _ (fun j hj=>upd_other _ _ fun e=>by subst e;rw[hc] at hj;cases hj) hd,ho⟩
 have hrow:DenA w' I (upd β k v') (.row k) v':=by rw[DenA];exact⟨(upd_same _ _ _).symm,.inl hsl⟩
 suffices hrel:Rel ds w0 I0 F ⟨S.sl,setB (cZ_ S.bx l) k (.row T sz n cs),S.df⟩ I (upd β k v') a w' from hrel.put dst hrow
 refine⟨hm.add (h7_ hf'.2) hbox (fun n hn=>?_),DenAs.mono hk _ _ (fun j hj=>upd_other _ _ fun e=>?_) hr.sl,hr.dn,fun j hj=>(upd_other _ _ (by omega)).trans (hr.fx j hj)⟩
 ·have hn:=hn.plain (by obtain⟨x,m,c,rfl⟩:=hsl;exact fun _ e=>by cases e)
  rw[hblk'] at hn
  have hold:v'.ownBlock=v.ownBlock→¬ I n∧(F n∨w0.heap.size≤n)∧∀ j c,getB (cZ_ S.bx l) j=some c→¬ Blk (β j) n:=fun e=>by
   rw[e] at hn
   refine⟨(hrr n hn).1,(hrr n hn).2,fun j c hj hjn=>?_⟩
   rcases (hsub j c hj).2 with h2|h2
   ·rw[h2] at hn;cases hn
   ·exact h2 n hn hjn
  rcases hfr with hfr|hfr
  ·exact hold hfr
  ·have:=hfr n hn
   refine⟨fun hI=>by have:=hr.mem.im n hI;omega,.inr (Nat.le_trans hr.mem.sz this),fun j c hj hjn=>?_⟩
   have:=(hr.mem.bxs j c (hsub j c hj).1).lt hjn
   omega
 ·subst e;rw[hf'.1] at hj;cases hj
theorem bk_ {w:World} {b:Nat} {T:TypeId} {sz n:Nat} {v:Value} {us:List Value} (h:w.ownsRow b T sz v n us):∃ a m c,v=.slice a m c:=by
 rcases h.2 with⟨rfl,_⟩|⟨g,cap,cur,rfl,_⟩
 ·exact⟨_,_,_,rfl⟩
 ·exact⟨_,_,_,rfl⟩
theorem serves_append {P:Program} {τ:Tab} (hτ:aq_ P τ) {o:Oper} {T:TypeId} {x y:Operand} (ho:o.op=.call ⟨.builtin .append,#[x,y],#[T,T]⟩):aS_ P o (g1_ τ o.dst T x y):=by
 intro ds pn S side e fp h hside S1 hs hf
 have ex:=hs.1 x (by simp[ho,Op.operands,Call.operands])
 have ey:=hs.1 y (by simp[ho,Op.operands,Call.operands])
 unfold g1_ at h
 rw[← ex,← ey] at h
 split at h
 ·rename_i k E _ _ _ hd ht
  obtain⟨d,hu,hk⟩:=(hτ T _ ht).und
  simp only[TK.ok] at hk
  subst hk
  cases hte:τ E with
  | none=>rw[hte] at h;cases h
  | some te =>
   obtain⟨i,z,hi,his,hib,hiz,hzc,hzl,_⟩:=(hτ E te hte).info
   rw[hte,Option.bind_some] at h
   cases hda:B5_ S.bx E te.size (S1.ev x) with
   | none=>rw[hda] at h;cases h
   | some r =>
    obtain⟨n,⟨sz,T'⟩,cs,dl,ownd⟩:=r
    rw[hda,Option.bind_some] at h
    cases hsa:p3_ S.bx te.size (S1.ev y) with
    | none=>rw[hsa] at h;cases h
    | some q =>
     obtain⟨m,sz2,cs2,fp2⟩:=q
     rw[hsa,Option.bind_some] at h
     cases h
     simp only at hside hf hs ⊢
     obtain⟨q1,q2,q3,hlen,hbnd,hpos,hdisj⟩:=hside
     subst q1
     obtain rfl:E=T':=q2.symm
     subst q3
     have hsa1:p3_ S1.bx te.size (S1.ev y)=some (m,te.size,cs2,fp2):=i1_ hsa (fun j hj=>hs.2.2 j (by simp[hj]))
     have hk0:S1.has k=false:=hf _ (List.mem_singleton.2 rfl)
     have hk1:=aF_ hk0
     have hmax:n+m≤maxLen:=by
      simp only[maxLen]
      have:n+m≤(n+m)*(te.bytes+1):=Nat.le_mul_of_pos_right _ (by omega)
      omega
     have hbyt:(n+m)*te.bytes≤140737488355328:=Nat.le_trans (Nat.mul_le_mul_left _ (by omega)) hbnd
     refine Core.world fun w0 I0 F I β a w hr=>?_
     obtain⟨ad,c,us,e2,hd2,ho2,hnil2,hc2⟩:=rz_ hr hsa1 hlen
     have hl2:us.length=m*te.size:=by rw[← hd2.length];exact hlen
     have hzs:z.cells.size=te.size:=by rw[← Array.length_toList,hzc,hzl]
     unfold B5_ at hda
     split at hda
     ·rename_i j hx
      split at hda
      ·rename_i _ _ _ _ hb
       cases hda
       have hb1:=(hs.2.2 j (by simp)).trans hb
       obtain⟨xs,how,hdx,hox⟩:=hr.mem.bxs j _ hb1
       have hv:=hr.ev x
       rw[hx,DenA] at hv
       obtain⟨v',w',hrun,how',hg,hfr⟩:=cA_ (P:=P) w (ty:=o.type) hu hi hiz his hib hzs how hl2 hnil2 hc2 ho2 hmax hbyt
       refine⟨v',w',I,upd β k v',?_,?_⟩
       ·obtain⟨C,hC⟩:=aw_ (P:=P) ho;rw[hC];simp[builtin,hv.1,e2,hrun]
       ·exact hr.appended hk0 hg hfr (bk_ how') (.inr ⟨j,_,rfl,hb1,rfl,kN_ how⟩) how' (hdx.append hd2)
         (fun u hu=>by rcases List.mem_append.1 hu with hu|hu;exact hox u hu;exact ho2 u hu) (by have h5:=(hasB_get hk1.2).2 j _ hb1;simp only[Box.cs] at h5;rw[hasL_append,h5,srcA_has hsa1 hk1.2];rfl) o.dst
      ·cases hda
     ·rename_i hx
      cases hda
      have hv:=hr.ev x
      rw[hx,DenA_v] at hv
      obtain⟨v',w',hrun,how',hg,hfr⟩:=cA_ (P:=P) w (ty:=o.type) hu hi hiz his hib hzs (World.ownsRow_nil w 0 E te.size) hl2 hnil2 hc2 ho2 hmax hbyt
      refine⟨v',w',I,upd β k v',?_,?_⟩
      ·obtain⟨C,hC⟩:=aw_ (P:=P) ho;rw[hC];simp[builtin,hv,e2,hrun]
      ·exact hr.appended (v:=.slice none 0 0) hk0 (l:=[]) hg hfr (bk_ how') (.inl rfl) how' (by simpa using hd2) (by simpa using ho2) (by simpa using srcA_has hsa1 hk1.2) o.dst
     ·rename_i sz' cs' n' hx
      cases hda
      have hv:=hr.ev x
      rw[hx,DenA,Den] at hv
      obtain⟨adx,cap,e1,hnc,hcm,hfl,hlx,hnilx,hatx⟩:=hv
      have hcap:=hfl rfl
      subst hcap
      have hm:=hpos rfl
      cases adx with
      | none =>
       obtain⟨hn0,_⟩:=hnilx rfl
       subst hn0
       have:cs'=[]:=List.eq_nil_of_length_eq_zero (by simpa using hlx)
       subst this
       obtain⟨v',w',hrun,how',hg,hfr⟩:=cA_ (P:=P) w (ty:=o.type) hu hi hiz his hib hzs (World.ownsRow_nil w 0 E te.size) hl2 hnil2 hc2 ho2 hmax hbyt
       refine⟨v',w',I,upd β k v',?_,?_⟩
       ·obtain⟨C,hC⟩:=aw_ (P:=P) ho;rw[hC];simp[builtin,e1,e2,hrun]
       ·exact hr.appended (v:=.slice none 0 0) hk0 (l:=[]) hg hfr (bk_ how') (.inl rfl) how' (by simpa using hd2) (by simpa using ho2) (by simpa using srcA_has hsa1 hk1.2) o.dst
      | some b =>
       obtain⟨hsp,hat⟩:=hatx b rfl
       obtain⟨xs,hdx,hox,hcx⟩:=hat.dens
       have hadx:∀ j u,xs[j]? = some u→w.cell? (b.add j)=some u:=fun j u hj=>by
        have hm0:0<cap:=by
         rcases Nat.eq_zero_or_pos cap with h0|h0
         ·have hl:=hdx.length
          have:=(List.getElem?_eq_some_iff.1 hj).1
          rw[h0] at hlx
          omega
         ·exact h0
        have hsp:=hsp hm0
        obtain⟨bb,off,sp⟩:=b
        simp only at hsp;subst hsp
        rw[Addr.add_lit];exact hcx j u hj
       have hlxs:xs.length=cap*i.size:=by rw[← hdx.length,his];exact hlx
       cases ad with
       | none=>have:=(hnil2 rfl).1;omega
       | some b2 =>
        have hrun:=run_append_grow (P:=P) w T o.type E i z hu hi hiz b cap cap xs hlxs hadx b2 m c us (by rw[his];exact hl2) (hc2 b2 rfl) (by omega) (by simp only[maxLen] at hmax;omega) (growslice_fits (by omega) (by rw[hib];exact hbyt))
        have hgr:Gb w (w.drew.alloc (.cells (xs.toArray++us.toArray++Builtin.zeroCells z.cells (grownCap w (cap+m) cap E-(cap+m))) E)) none:=bC_ w (Gb.alloc w.drew _ none)
        have hlecap:(xs++us).length=(cap+m)*te.size:=by rw[List.length_append,hlxs,hl2,his,Nat.add_mul]
        have how':(w.drew.alloc (.cells (xs.toArray++us.toArray++Builtin.zeroCells z.cells (grownCap w (cap+m) cap E-(cap+m))) E)).ownsRow 0 E te.size (.slice (some ⟨w.heap.size,0,none⟩) (cap+m) (grownCap w (cap+m) cap E)) (cap+m) (xs++us):=by
         have hge:=grownCap_ge w (cap+m) cap E
         refine⟨hlecap,.inr ⟨w.heap.size,_,_,rfl,Nat.zero_le _,heap_alloc_new w.drew _,hge,grownCap_le_maxLen w (cap+m) cap E hmax,?_,?_⟩⟩
         ·simp only[Array.size_append,List.size_toArray,size_zeroCells,hzs,hlxs,hl2,his,← Nat.add_mul]
          congr 1
          omega
         ·simp only[Array.toList_append,List.append_assoc]
          rw[← List.append_assoc,← hlecap]
          exact List.take_left
        obtain⟨v',w',hrun,hgr,how',hfr⟩:∃ v' w',(Builtin.append_ #[T,T] o.type #[.slice (some b) cap cap,.slice (some b2) m c]).run P w=.ok v' w'∧Gb w w' none∧w'.ownsRow 0 E te.size v' (cap+m) (xs++us)∧∀ g,v'.ownBlock=some g→w.heap.size≤g :=
         ⟨_,_,hrun,hgr,how',fun g hg=>by simp[Value.ownBlock] at hg;omega⟩
        refine⟨v',w',I,upd β k v',by obtain⟨C,hC⟩:=aw_ (P:=P) ho;rw[hC];simp[builtin,e1,e2,hrun],?_⟩
        exact hr.appended hk0 (l:=[]) (v:=.slice none 0 0) hgr (.inr hfr) (bk_ how') (.inl rfl) how' ((DenAs.of_dens hdx).append hd2)
         (fun u hu=>by rcases List.mem_append.1 hu with hu|hu;exact hox u hu;exact ho2 u hu) (by rw[hasL_append,hasL_d,srcA_has hsa1 hk1.2];rfl) o.dst
     ·cases hda
 ·cases h
end Go.Xe
namespace Go.Xe
open Go.RowKit
variable [Glob]
theorem oy_ (off:Nat):∀ (l:List Value) (k:Nat) (cells:Array Value),((l.zipIdx k).foldl (fun (cs:Array Value) (p:Value×Nat)=>cs.setIfInBounds (off+p.2) p.1) cells).toList=i4_ cells.toList (off+k) l
 | [],_,_=>by simp[i4_]
 | v::l,k,cells=>by
  simp only[List.zipIdx_cons,List.foldl_cons]
  rw[oy_ off l (k+1),i4_]
  simp[Nat.add_assoc]
def iO_ (place:Nat→Option (Nat×Nat)):List Value→List (Nat×Value)→Option (List Value)
 | cs,[]=>some cs
 | cs,(i,v)::r=>match place i with
  | none=>none
  | some (off,size)=>if v.cells.toList.length≠size∨off+size>cs.length then none else iO_ place (i4_ cs off v.cells.toList) r
theorem kw_ (place:Nat→Option (Nat×Nat)):∀ (parts:List (Nat×Value)) (cells:Array Value) (r:List Value),iO_ place cells.toList parts=some r→Instr.fill place cells parts=some r.toArray
 | [],cells,r,h=>by simp only[iO_,Option.some.injEq] at h;subst h;simp[Instr.fill]
 | (i,v)::parts,cells,r,h=>by
  unfold iO_ at h
  unfold Instr.fill
  cases hp:place i with
  | none=>rw[hp] at h;cases h
  | some q =>
   obtain⟨off,size⟩:=q
   rw[hp] at h
   simp only at h ⊢
   split at h
   ·cases h
   ·rename_i hc
    simp only[Array.length_toList,not_or,Decidable.not_not,Nat.not_lt,gt_iff_lt] at hc
    rw[if_neg (by simp;omega)]
    refine kw_ place parts _ r ?_
    rw[← h]
    congr 1
    rw[← Array.foldl_toList,Array.toList_zipIdx]
    have:=oy_ off v.cells.toList 0 cells
    simpa using this
def dr_ (place:Nat→Option (Nat×Nat)):List AV→List (Nat×AV)→Option (Prop×List AV)
 | cs,[]=>some (True,cs)
 | cs,(i,x)::r=>(place i).bind fun q=>(dr_ place (setL cs q.1 x.cells) r).map fun s=>((x.cells.length=q.2∧q.1+q.2≤cs.length∧(∀ c∈x.cells,oneA c=true))∧s.1,s.2)
theorem kx_ {ds:Dn} {w0:World} {I0 F:Nat→Prop} {S:St} {I:Nat→Prop} {β:Nat→Value} {a:Act} {w:World} (hr:Rel ds w0 I0 F S I β a w) {place:Nat→Option (Nat×Nat)} :
  ∀ (parts:List (Nat×Operand)) {cs:List AV} {vs:List Value} {p:Prop} {cs':List AV},DenAs w I β cs vs→(∀ v∈vs,v.oneCell'=true)→dr_ place cs (parts.map fun q=>(q.1,S.ev q.2))=some (p,cs')→p →
   ∃ vs',iO_ place vs (parts.map fun q=>(q.1,a.eval q.2))=some vs'∧DenAs w I β cs' vs'∧∀ v∈vs',v.oneCell'=true
 | [],cs,vs,p,cs',hd,ho,h,_=>by
  simp only[List.map_nil,dr_,Option.some.injEq,Prod.mk.injEq] at h
  obtain⟨_,rfl⟩:=h
  exact⟨vs,rfl,hd,ho⟩
 | (i,x)::parts,cs,vs,p,cs',hd,ho,h,hp=>by
  simp only[List.map_cons,dr_] at h
  cases hpl:place i with
  | none=>rw[hpl] at h;cases h
  | some q =>
   obtain⟨off,size⟩:=q
   rw[hpl,Option.bind_some] at h
   cases hf:dr_ place (setL cs off (S.ev x).cells) (parts.map fun q=>(q.1,S.ev q.2)) with
   | none=>rw[hf] at h;cases h
   | some s =>
    obtain⟨p',cs''⟩:=s
    rw[hf] at h
    simp only[Option.map_some,Option.some.injEq,Prod.mk.injEq] at h
    obtain⟨rfl,rfl⟩:=h
    obtain⟨⟨h1,h2,h3⟩,hp'⟩:=hp
    have hx:=he_ (hr.ev x) h3
    have hox:=eV_ hx h3
    have hl:(a.eval x).cells.toList.length=size:=by rw[← hx.length];exact h1
    obtain⟨vs',e1,e2,e3⟩:=kx_ hr parts (hx.setL hd off) (fun v hv=>by rcases mem_setV _ _ _ _ hv with hv|hv;exact ho v hv;exact hox v hv) hf hp'
    refine⟨vs',?_,e2,e3⟩
    simp only[List.map_cons,iO_,hpl]
    rw[if_neg (by rw[hl,← hd.length];omega)]
    exact e1
/-! ### build -/
def eQ_ (τ:Tab) (fs:List (Nat×Nat)) (i:Nat):Option (Nat×Nat):=(fs[i]?).bind fun f=>(τ f.2).map fun te=>(f.1,te.size)
def bf_ (l:List Value):List AV:=l.map fun x=>.d (.v x)
def kd_ (τ:Tab) (T:TypeId) (parts:Array (Nat×Operand)) (S:St):OpR :=
 match τ T with
 | some ⟨.struct fs,_,_,zero⟩=>(dr_ (eQ_ τ fs) (bf_ zero) (parts.toList.map fun q=>(q.1,S.ev q.2))).bind fun r=>some ((fs.all fun f=>(τ f.2).isSome)=true∧r.1,⟨.agg r.2,[],[],[]⟩,[])
 | some ⟨.array _ e,_,_,zero⟩=>(τ e).bind fun te=>(dr_ (fun i=>some (i*te.size,te.size)) (bf_ zero) (parts.toList.map fun q=>(q.1,S.ev q.2))).bind fun r=>some (r.1,⟨.agg r.2,[],[],[]⟩,[])
 | _=>none
theorem hY_ {P:Program} {τ:Tab} (hτ:aq_ P τ) (w:World):∀ (fs:List Field),(fs.all fun f=>(τ f.type).isSome)=true →
  ∃ l:List (Nat×Nat),((fs.mapM fun f=>do pure (f.offset,← sizeOf f.type):Sem (List (Nat×Nat))).run P w=.ok l w)∧∀ i,l[i]? = eQ_ τ (fs.map fun f=>(f.offset,f.type)) i
 | [],_=>⟨[],by simp[List.mapM_nil],by simp[eQ_]⟩
 | f::fs,h=>by
  simp only[List.all_cons,Bool.and_eq_true] at h
  obtain⟨l,h1,h2⟩:=hY_ hτ w fs h.2
  cases ht:τ f.type with
  | none=>rw[ht] at h;simp at h
  | some te =>
   refine⟨(f.offset,te.size)::l,by simp only[List.mapM_cons,Sem.run_bind,(hτ _ _ ht).size w,Result.andThen_ok,Sem.run_pure,h1],fun i=>?_⟩
   cases i with
   | zero=>simp[eQ_,ht]
   | succ i=>simpa [eQ_] using h2 i
theorem hQ_ {o:Oper} {S S1:St} (parts:List (Nat×Operand)) (h:∀ x∈o.op.operands,S1.ev x=S.ev x) (hp:∀ q∈parts,q.2∈o.op.operands):(parts.map fun q=>(q.1,S.ev q.2))=parts.map fun q=>(q.1,S1.ev q.2) :=
 List.map_congr_left fun q hq=>by rw[h q.2 (hp q hq)]
theorem lh_ {P:Program} {τ:Tab} (hτ:aq_ P τ) {o:Oper} {T:TypeId} {parts:Array (Nat×Operand)} (ho:o.op=.build T parts):aS_ P o (kd_ τ T parts):=by
 intro ds pn S side e fp h hside S1 hs _
 have hpc:=hQ_ (o:=o) parts.toList hs.1 (fun q hq=>by simp[ho,Op.operands];exact⟨q.1,by simpa using hq⟩)
 unfold kd_ at h
 rw[hpc] at h
 have fin:∀ (place:Nat→Option (Nat×Nat)) (zero:List Value) (p:Prop) (cs':List AV),(∀ v∈zero,v.oneCell'=true)→dr_ place (bf_ zero) (parts.toList.map fun q=>(q.1,S1.ev q.2))=some (p,cs')→p →
   (∀ (a:Act) (w:World) (vs':List Value),iO_ place zero (parts.toList.map fun q=>(q.1,a.eval q.2))=some vs'→(Instr.build T (parts.map fun (i,x)=>(i,a.eval x))).run P w=.ok (.agg vs'.toArray) w) →
   Core P ds pn o S1 (S1.app o.dst ⟨.agg cs',[],[],[]⟩):=by
  intro place zero p cs' hz hf hp hrun
  refine Core.value fun w0 I0 F I β a w hr=>?_
  obtain⟨vs',e1,e2,_⟩:=kx_ hr parts.toList (a2_ (w:=w) (I:=I) (β:=β) zero) hz hf hp
  refine⟨.agg vs'.toArray,?_,vs',rfl,e2⟩
  have:=hrun a w vs' e1
  simp only[execOp,ho,Sem.run_bind,this,Result.andThen_ok,Sem.run_pure]
 split at h
 ·rename_i fs _ _ zero ht
  have tk:=hτ T _ ht
  obtain⟨d,hu,fa,rfl,hfs⟩:=tk.und
  cases hf:dr_ (eQ_ τ fs) (bf_ zero) (parts.toList.map fun q=>(q.1,S1.ev q.2)) with
  | none=>rw[hf] at h;cases h
  | some r =>
   obtain⟨p,cs'⟩:=r
   rw[hf] at h
   cases h
   refine fin _ zero p cs' tk.zone hf hside.2 fun a w vs' hv=>?_
   obtain⟨z,hz,hzc⟩:=tk.zero w
   have hall:(fa.toList.all fun f=>(τ f.type).isSome)=true:=by
    have:=hside.1
    rw[← hfs,List.all_map] at this
    exact this
   obtain⟨l,hl,hpl⟩:=hY_ hτ w fa.toList hall
   have hmap:(fa.mapM fun f=>do pure (f.offset,← sizeOf f.type):Sem (Array (Nat×Nat))).run P w=.ok l.toArray w:=by
    rw[← Array.toArray_toList (xs:=fa),List.mapM_toArray,Sem.run_map,hl];rfl
   have hpl':(fun i=>l.toArray[i]?)=eQ_ τ fs:=by
    funext i;rw[List.getElem?_toArray,hpl i,hfs]
   have hfe:=kw_ (eQ_ τ fs) (parts.toList.map fun q=>(q.1,a.eval q.2)) z.cells vs' (by rw[hzc];exact hv)
   unfold Instr.build
   simp only[Sem.run_bind,hz,Result.andThen_ok,run_underlying hu,hmap,Array.toList_map]
   rw[hpl',hfe]
   rfl
 ·rename_i n el _ _ zero ht
  have tk:=hτ T _ ht
  obtain⟨d,hu,hk⟩:=tk.und
  simp only[TK.ok] at hk
  subst hk
  cases hte:τ el with
  | none=>rw[hte] at h;cases h
  | some te =>
   rw[hte,Option.bind_some] at h
   cases hf:dr_ (fun i=>some (i*te.size,te.size)) (bf_ zero) (parts.toList.map fun q=>(q.1,S1.ev q.2)) with
   | none=>rw[hf] at h;cases h
   | some r =>
    obtain⟨p,cs'⟩:=r
    rw[hf] at h
    cases h
    refine fin _ zero p cs' tk.zone hf hside fun a w vs' hv=>?_
    obtain⟨z,hz,hzc⟩:=tk.zero w
    have hfe:=kw_ (fun i=>some (i*te.size,te.size)) (parts.toList.map fun q=>(q.1,a.eval q.2)) z.cells vs' (by rw[hzc];exact hv)
    unfold Instr.build
    simp only[Sem.run_bind,hz,Result.andThen_ok,run_underlying hu,(hτ el te hte).size w,Array.toList_map]
    rw[hfe]
    rfl
 ·cases h
/-! ### buildSlice, makeSlice -/
theorem jC_ (zero:Array Value):∀ n,((Array.range (n*zero.size)).map (fun i=>zero[i%zero.size]!)).toList=(List.replicate n zero.toList).flatten
 | 0=>by simp
 | n+1=>by
  rw[List.replicate_succ',List.flatten_append,← jC_ zero n]
  simp only[Array.toList_map,Array.toList_range,List.flatten_cons,List.flatten_nil,List.append_nil]
  rw[Nat.add_mul,Nat.one_mul,List.range_add,List.map_append]
  congr 1
  apply List.ext_getElem?
  intro i
  simp only[List.map_map,List.getElem?_map,Array.getElem?_toList]
  by_cases hi:i<zero.size
  ·rw[List.getElem?_range hi]
   simp only[Option.map_some,Function.comp_apply]
   have:(n*zero.size+i)%zero.size=i:=by rw[Nat.mul_comm,Nat.mul_add_mod];exact Nat.mod_eq_of_lt hi
   rw[this]
   simp[hi]
  ·rw[List.getElem?_eq_none (by simpa using hi),Array.getElem?_eq_none (by omega)]
   rfl
def cs_ (τ:Tab) (dst:Option Tmp) (T:TypeId) (len:Nat) (parts:Array (Nat×Operand)) (S:St):OpR :=
 match dst,τ T with
 | some k,some ⟨.slice E,_,_,_⟩=>(τ E).bind fun te=>(dr_ (fun i=>some (i*te.size,te.size)) (bf_ (List.replicate len te.zero).flatten) (parts.toList.map fun q=>(q.1,S.ev q.2))).bind fun r =>
   some ((len*te.size≤16777216∧te.size≠0)∧r.1,⟨.row k,[],[],[(k,.row E te.size len r.2)]⟩,[])
 | _,_=>none
theorem eM_ (n:Nat) (zero:List Value):((List.replicate n zero).flatten).length=n*zero.length:=by
 induction n with
 | zero=>simp
 | succ n ih=>rw[List.replicate_succ,List.flatten_cons,List.length_append,ih,Nat.add_mul];omega
theorem f1_ (place:Nat→Option (Nat×Nat)):∀ (parts:List (Nat×Value)) (cs r:List Value),iO_ place cs parts=some r→r.length=cs.length
 | [],cs,r,h=>by simp only[iO_,Option.some.injEq] at h;rw[h]
 | (i,v)::parts,cs,r,h=>by
  unfold iO_ at h
  split at h
  ·cases h
  ·split at h
   ·cases h
   ·rw[f1_ place parts _ r h,ef_]
theorem lB_ {k:Nat} {place:Nat→Option (Nat×Nat)}:∀ (parts:List (Nat×AV)) {cs:List AV} {p:Prop} {cs':List AV},dr_ place cs parts=some (p,cs')→ah_ k cs=false→(∀ q∈parts,AV.has k q.2=false)→ah_ k cs'=false
 | [],cs,p,cs',h,hc,_=>by simp only[dr_,Option.some.injEq,Prod.mk.injEq] at h;rw[← h.2];exact hc
 | (i,x)::parts,cs,p,cs',h,hc,hq=>by
  unfold dr_ at h
  cases hp:place i with
  | none=>rw[hp] at h;cases h
  | some q =>
   rw[hp,Option.bind_some] at h
   cases hf:dr_ place (setL cs q.1 x.cells) parts with
   | none=>rw[hf] at h;cases h
   | some s =>
    rw[hf] at h
    simp only[Option.map_some,Option.some.injEq,Prod.mk.injEq] at h
    rw[← h.2]
    refine lB_ parts (p:=s.1) (cs':=s.2) hf ?_ (fun q hq'=>hq q (by simp[hq']))
    have hx:=lA_ (hq (i,x) (by simp))
    have gen:∀ (xs cs:List AV) (off:Nat),ah_ k cs=false→ah_ k xs=false→ah_ k (setL cs off xs)=false:=by
     intro xs
     induction xs with
     | nil=>intro cs off h _;exact h
     | cons y ys ih =>
      intro cs off h h'
      simp only[ah_,Bool.or_eq_false_iff] at h'
      refine ih _ _ ?_ h'.2
      have hs:∀ (cs:List AV) (off:Nat),ah_ k cs=false→ah_ k (cs.set off y)=false:=by
       intro cs
       induction cs with
       | nil=>intro off _;rfl
       | cons c cs ih2 =>
        intro off hh
        simp only[ah_,Bool.or_eq_false_iff] at hh
        cases off with
        | zero=>simp only[List.set_cons_zero,ah_,h'.1,hh.2,Bool.or_self]
        | succ off=>simp only[List.set_cons_succ,ah_,hh.1,ih2 off hh.2,Bool.or_self]
      exact hs cs off h
    exact gen _ _ _ hc hx
theorem h6_ (k:Nat) (l:List Value):ah_ k (bf_ l)=false:=by
 unfold bf_
 induction l with
 | nil=>rfl
 | cons c cs ih=>simp[ah_,AV.has,ih]
theorem fn_ {P:Program} {τ:Tab} (hτ:aq_ P τ) {o:Oper} {T:TypeId} {len:Nat} {parts:Array (Nat×Operand)} (ho:o.op=.buildSlice T len parts):aS_ P o (cs_ τ o.dst T len parts):=by
 intro ds pn S side e fp h hside S1 hs hf
 have hpc:=hQ_ (o:=o) parts.toList hs.1 (fun q hq=>by simp[ho,Op.operands];exact⟨q.1,by simpa using hq⟩)
 unfold cs_ at h
 rw[hpc] at h
 split at h
 ·rename_i k E _ _ _ hd ht
  obtain⟨d,hu,hk⟩:=(hτ T _ ht).und
  simp only[TK.ok] at hk
  subst hk
  cases hte:τ E with
  | none=>rw[hte] at h;cases h
  | some te =>
   have tk:=hτ E te hte
   rw[hte,Option.bind_some] at h
   cases hfa:dr_ (fun i=>some (i*te.size,te.size)) (bf_ (List.replicate len te.zero).flatten) (parts.toList.map fun q=>(q.1,S1.ev q.2)) with
   | none=>rw[hfa] at h;cases h
   | some r =>
    obtain⟨p,cs'⟩:=r
    rw[hfa] at h
    cases h
    obtain⟨⟨hl1,hl2⟩,hp⟩:=hside
    have hk0:S1.has k=false:=hf _ (List.mem_singleton.2 rfl)
    refine Core.world fun w0 I0 F I β a w hr=>?_
    have hzo:∀ v∈(List.replicate len te.zero).flatten,v.oneCell'=true:=fun v hv=>by
     simp only[List.mem_flatten,List.mem_replicate] at hv
     obtain⟨l,⟨_,rfl⟩,hv⟩:=hv
     exact tk.zone v hv
    obtain⟨vs',e1,e2,e3⟩:=kx_ hr parts.toList (a2_ (w:=w) (I:=I) (β:=β) _) hzo hfa hp
    have hlen:vs'.length=len*te.size:=by rw[f1_ _ _ _ _ e1,eM_,tk.zlen]
    have hcap:len≤maxLen:=by
     simp only[maxLen]
     have:len≤len*te.size:=Nat.le_mul_of_pos_right _ (by omega)
     omega
    have hgr:=Gb.alloc w (.cells vs'.toArray E) none
    have how:(w.alloc (.cells vs'.toArray E)).ownsRow 0 E te.size (.slice (some ⟨w.heap.size,0,none⟩) len len) len vs' :=
     ⟨hlen,.inr ⟨w.heap.size,len,vs'.toArray,rfl,Nat.zero_le _,heap_alloc_new w _,Nat.le_refl _,hcap,by simpa using hlen,by simp[List.take_of_length_le,hlen]⟩⟩
    refine⟨.slice (some ⟨w.heap.size,0,none⟩) len len,w.alloc (.cells vs'.toArray E),I,upd β k (.slice (some ⟨w.heap.size,0,none⟩) len len),?_,?_⟩
    ·obtain⟨z,hz,hzc⟩:=tk.zero w
     have hzs:z.cells.size=te.size:=by rw[← Array.length_toList,hzc,tk.zlen]
     have hbase:((Array.range (len*te.size)).map (fun i=>(if len*te.size=0 then #[] else z.cells)[i%(if len*te.size=0 then #[] else z.cells).size]!)).toList=(List.replicate len te.zero).flatten:=by
      by_cases h0:len*te.size=0
      ·have:len=0:=by rcases Nat.mul_eq_zero.1 h0 with h|h;exact h;exact absurd h hl2
       subst this;simp
      ·simp only[h0,if_false];rw[← hzs,jC_,hzc]
     have hfe:=kw_ (fun i=>some (i*te.size,te.size)) (parts.toList.map fun q=>(q.1,a.eval q.2)) _ vs' (by rw[hbase];exact e1)
     simp only[execOp,ho,Instr.buildSlice,Sem.run_bind,run_underlying hu,Result.andThen_ok,tk.size w]
     rw[if_neg (by simpa using hl1)]
     by_cases h0:len*te.size=0
     ·simp only[h0,if_true] at hfe ⊢
      simp only[Sem.run_bind,Sem.run_pure,Result.andThen_ok,Array.toList_map] at hfe ⊢
      rw[hfe]
      simp[newRow]
     ·simp only[h0,if_false] at hfe ⊢
      simp only[Sem.run_bind,hz,Sem.run_pure,Result.andThen_ok,Array.toList_map] at hfe ⊢
      rw[hfe]
      simp[newRow]
    ·refine hr.appended (v:=.slice none 0 0) hk0 (l:=[]) hgr (.inr fun g hg=>by simp[Value.ownBlock] at hg;omega) ⟨_,_,_,rfl⟩ (.inl rfl) how e2 e3 ?_ o.dst
     refine lB_ _ hfa (h6_ k _) fun q hq=>?_
     simp only[List.mem_map] at hq
     obtain⟨q',_,rfl⟩:=hq
     exact wb_ hk0 q'.2
 ·cases h
/-! ### makeInterface, typeAssert -/
def kb_ (τ:Tab) (T:TypeId) (x:Operand) (S:St):OpR :=
 match τ T with
 | some ⟨.iface,_,_,_⟩=>none
 | some _=>match S.ev x with
  | .d (.v y)=>okV (.d (.v (.iface T y)))
  | y=>okV (.iface T y)
 | none=>none
theorem lf_ {P:Program} {τ:Tab} (hτ:aq_ P τ) {o:Oper} {T:TypeId} {x:Operand} (ho:o.op=.makeInterface T x):aS_ P o (kb_ τ T x):=by
 intro ds pn S side e fp h hside S1 hs _
 have ex:=hs.1 x (by simp[ho,Op.operands])
 unfold kb_ at h
 rw[← ex] at h
 split at h
 ·cases h
 ·rename_i te hne ht
  have run:∀ (a:Act) (w:World),(execOp a.eval o).run P w=.ok (.value (.iface T (a.eval x))) w:=by
   intro a w
   obtain⟨d,hu,hk⟩:=(hτ T _ ht).und
   have:∀ m,d ≠ .interface m:=by
    rintro m rfl
    obtain⟨k,s,b,z⟩:=te
    cases k<;>simp only[TK.ok,reduceCtorEq] at hk
    ·obtain⟨_,h,_⟩:=hk;cases h
    ·obtain⟨_,_,_,h⟩:=hk;cases h
    ·exact hne _ _ _ rfl
   simp only[execOp,ho,Instr.makeInterface,Sem.run_bind,run_underlying hu,Result.andThen_ok]
   cases d<;>first|rfl|exact absurd rfl (this _)
  split at h
  ·rename_i y hx
   cases h
   refine Core.value fun w0 I0 F I β a w hr=>⟨_,run a w,?_⟩
   have hv:=hr.ev x
   rw[hx,DenA_v] at hv
   rw[DenA_v,hv]
  ·rename_i hx
   cases h
   exact Core.value fun w0 I0 F I β a w hr=>⟨_,run a w,_,rfl,hr.ev x⟩
 ·cases h
end Go.Xe
namespace Go.Xe
open Go.RowKit
variable [Glob]
/-! ### tags -/
mutual
def aM_:AV→List Nat
 | .d _=>[]
 | .ptr j _=>[j]
 | .agg cs=>as_ cs
 | .tup cs=>as_ cs
 | .fn _ first caps=>as_ first++as_ caps
 | .row j=>[j]
 | .rptr j _=>[j]
 | .psl j _ _ _=>[j]
 | .rsl j _ _=>[j]
 | .iface _ x=>aM_ x
 | .when _ x=>aM_ x
def as_:List AV→List Nat
 | []=>[]
 | c::cs=>aM_ c++as_ cs
end
theorem ii_ (j k:Nat):(j == k)=[j].contains k:=by rw[Bool.eq_iff_iff];simp;exact⟨Eq.symm,Eq.symm⟩
mutual
theorem eI_ {k:Nat}:∀ (x:AV),AV.has k x=(aM_ x).contains k
 | .d _=>by simp[AV.has,aM_]
 | .ptr j _=>ii_ j k
 | .agg cs=>by simp[AV.has,aM_,ce_ cs]
 | .tup cs=>by simp[AV.has,aM_,ce_ cs]
 | .fn _ first caps=>by simp[AV.has,aM_,ce_ first,ce_ caps]
 | .row j=>ii_ j k
 | .rptr j _=>ii_ j k
 | .psl j _ _ _=>ii_ j k
 | .rsl j _ _=>ii_ j k
 | .iface _ x=>by simp[AV.has,aM_,eI_ x]
 | .when _ x=>by simp[AV.has,aM_,eI_ x]
theorem ce_ {k:Nat}:∀ (l:List AV),ah_ k l=(as_ l).contains k
 | []=>by simp[ah_,as_]
 | c::cs=>by simp[ah_,as_,eI_ c,ce_ cs]
end
def uK_:Bxs→List Nat
 | []=>[]
 | (j,b)::r=>j::(as_ b.cs++uK_ r)
theorem kf_ {k:Nat}:∀ (bx:Bxs),dN_ k bx=(uK_ bx).contains k
 | []=>by simp[dN_,uK_]
 | (j,b)::r=>by
  simp only[dN_,uK_,List.contains_cons,ce_,kf_ r,List.contains_append]
  rw[Bool.or_assoc]
  congr 1
  rw[Bool.eq_iff_iff];simp;exact⟨Eq.symm,Eq.symm⟩
structure TS where
 fp:List Nat
 wr:List Nat
 add:List Nat
 occ:List Nat
 deriving Inhabited
def TI.ts (t:TI):TS:=⟨t.fp,t.e.del++(t.e.upd.map (·.1)++t.e.add.map (·.1)),t.e.add.map (·.1),aM_ t.e.v++(uK_ t.e.upd++uK_ t.e.add)⟩
/-! ### what an effect does to boxes -/
def wm_ (bx:Bxs) (e:Eff):Bxs:=c2_ (c2_ (cZ_ bx e.del) e.upd) e.add
theorem a6_ (S:St) (dst:Option Tmp) (e:Eff):(S.app dst e).bx=wm_ S.bx e:=by cases dst<;>rfl
theorem cK_:∀ (l:List Nat) (bx:Bxs) (k:Nat),getB (cZ_ bx l) k=if k∈l then none else getB bx k
 | [],bx,k=>by simp[cZ_]
 | j::l,bx,k=>by
  rw[cZ_,cK_ l,getB_del]
  by_cases h1:k∈l
  ·simp[h1]
  ·by_cases h2:j=k
   ·subst h2;simp
   ·simp[h1,h2,Ne.symm h2]
theorem bI_:∀ (l bx:Bxs) (k:Nat),k∉l.map (·.1)→getB (c2_ bx l) k=getB bx k
 | [],_,_,_=>rfl
 | (j,b)::l,bx,k,h=>by
  simp only[List.map_cons,List.mem_cons,not_or] at h
  rw[c2_,bI_ l _ k h.2,a9_,if_neg (fun e=>h.1 e.symm)]
theorem ck_:∀ (l:Bxs) {bx bx':Bxs} {k:Nat},getB bx k=getB bx' k→getB (c2_ bx l) k=getB (c2_ bx' l) k
 | [],_,_,_,h=>h
 | (j,b)::l,bx,bx',k,h=>by
  rw[c2_,c2_]
  refine ck_ l ?_
  rw[a9_,a9_,h]
theorem bR_ (e:Eff) {bx bx':Bxs} {k:Nat} (h:getB bx k=getB bx' k):getB (wm_ bx e) k=getB (wm_ bx' e) k :=
 ck_ _ (ck_ _ (by rw[cK_,cK_,h]))
theorem bD_ (e:Eff) {bx:Bxs} {k:Nat} (h:k∉e.del++(e.upd.map (·.1)++e.add.map (·.1))):getB (wm_ bx e) k=getB bx k:=by
 simp only[List.mem_append,not_or] at h
 rw[wm_,bI_ _ _ _ h.2.2,bI_ _ _ _ h.2.1,cK_,if_neg h.1]
/-! ### equal states -/
def St.eqv (S S':St):Prop:=(S.sl=S'.sl∧S.df=S'.df)∧∀ k,getB S.bx k=getB S'.bx k
theorem St.eqv.rfl' (S:St):S.eqv S:=⟨⟨rfl,rfl⟩,fun _=>rfl⟩
theorem St.eqv.symm {S S':St} (h:S.eqv S'):S'.eqv S:=⟨⟨h.1.1.symm,h.1.2.symm⟩,fun k=>(h.2 k).symm⟩
theorem St.eqv.trans {S S' S'':St} (h:S.eqv S') (h':S'.eqv S''):S.eqv S'':=⟨⟨h.1.1.trans h'.1.1,h.1.2.trans h'.1.2⟩,fun k=>(h.2 k).trans (h'.2 k)⟩
theorem Mem.eqv {w0:World} {I0 F:Nat→Prop} {bx bx':Bxs} {I:Nat→Prop} {β:Nat→Value} {w:World} (h:∀ k,getB bx k=getB bx' k) (hm:Mem w0 I0 F bx I β w):Mem w0 I0 F bx' I β w :=
 hm.sub fun k b hk=>by rw[h k];exact hk
theorem Rel.eqv {ds:Dn} {w0:World} {I0 F:Nat→Prop} {S S':St} {I:Nat→Prop} {β:Nat→Value} {a:Act} {w:World} (h:S.eqv S') (hr:Rel ds w0 I0 F S I β a w):Rel ds w0 I0 F S' I β a w :=
 ⟨hr.mem.eqv h.2,by rw[← h.1.1];exact hr.sl,by rw[← h.1.2];exact hr.dn,hr.fx⟩
theorem St.eqv.app {S S':St} (h:S.eqv S') (dst:Option Tmp) (e:Eff):(S.app dst e).eqv (S'.app dst e):=by
 refine⟨⟨?_,h.1.2⟩,fun k=>by rw[a6_,a6_];exact bR_ e (h.2 k)⟩
 cases dst with
 | none=>exact h.1.1
 | some t=>simp only[St.app,St.put,h.1.1]
def apart (d d':Option Tmp) (e e':Eff):Prop:=(∀ t,d=some t→d'≠some t)∧∀ k∈e.del++(e.upd.map (·.1)++e.add.map (·.1)),k∉e'.del++(e'.upd.map (·.1)++e'.add.map (·.1))
theorem ov_ (S:St) {d d':Option Tmp} {e e':Eff} (h:apart d d' e e'):((S.app d e).app d' e').eqv ((S.app d' e').app d e):=by
 refine⟨⟨?_,rfl⟩,fun k=>?_⟩
 ·cases d with
  | none=>cases d'<;>rfl
  | some t =>
   cases d' with
   | none=>rfl
   | some t' =>
    have hne:t≠t':=fun e=>h.1 t rfl (by rw[e])
    simp only[St.app,St.put]
    exact List.set_comm _ _ hne
 ·simp only[a6_]
  by_cases hk:k∈e.del++(e.upd.map (·.1)++e.add.map (·.1))
  ·have hk':=h.2 k hk
   rw[bD_ e' hk']
   exact bR_ e (bD_ e' hk').symm
  ·rw[bD_ e (bx:=wm_ S.bx e') hk]
   exact bR_ e' (bD_ e hk)
/-! ### some of the operations, in the order of the text -/
def mix (X:Nat→Bool):Nat→List Oper→List TI→St→St
 | k,o::os,t::ts,S=>mix X (k+1) os ts (if X k=true then S.app o.dst t.e else S)
 | _,_,_,S=>S
theorem sw_ (X:Nat→Bool):∀ (os:List Oper) (ts:List TI) (k:Nat) {S S':St},S.eqv S'→(mix X k os ts S).eqv (mix X k os ts S')
 | [],_,_,_,_,h=>h
 | _::_,[],_,_,_,h=>h
 | o::os,t::ts,k,S,S',h=>by
  simp only[mix]
  refine sw_ X os ts (k+1) ?_
  split
  ·exact h.app _ _
  ·exact h
theorem sx_ (X:Nat→Bool) (d:Option Tmp) (e:Eff):∀ (os:List Oper) (ts:List TI) (k:Nat) (S:St),(∀ j o t,os[j]? = some o→ts[j]? = some t→X (k+j)=true→apart d o.dst e t.e)→(mix X k os ts (S.app d e)).eqv ((mix X k os ts S).app d e)
 | [],_,_,_,_=>.rfl' _
 | _::_,[],_,_,_=>.rfl' _
 | o::os,t::ts,k,S,h=>by
  simp only[mix]
  have ih:=fun S'=>sx_ X d e os ts (k+1) S' (fun j o t h1 h2 h3=>h (j+1) o t (by simpa using h1) (by simpa using h2) (by rwa[Nat.add_assoc,Nat.add_comm 1 j] at h3))
  split
  ·rename_i hk
   have hc:=ov_ S (h 0 o t rfl rfl (by simpa using hk))
   exact (sw_ X os ts (k+1) hc).trans (ih _)
  ·exact ih S
theorem je_ {X Y:Nat→Bool} {i:Nat} {oi:Oper} {ti:TI} (hX:X i=false) (hY:∀ j,Y j=(X j||j == i)) :
  ∀ (os:List Oper) (ts:List TI) (k:Nat) (S:St),k≤i→os[i-k]? = some oi→ts[i-k]? = some ti→(∀ j o t,i<k+j→os[j]? = some o→ts[j]? = some t→X (k+j)=true→apart oi.dst o.dst ti.e t.e)→(mix Y k os ts S).eqv ((mix X k os ts S).app oi.dst ti.e)
 | [],_,_,_,_,h,_,_=>by simp at h
 | _::_,[],_,_,_,_,h,_=>by simp at h
 | o::os,t::ts,k,S,hk,ho,ht,hap=>by
  have shift:∀ (S:St),(∀ j o t,i<k+1+j→os[j]? = some o→ts[j]? = some t→X (k+1+j)=true→apart oi.dst o.dst ti.e t.e):=fun _ j o t h0 h1 h2 h3 =>
   hap (j+1) o t (by omega) (by simpa using h1) (by simpa using h2) (by rwa[Nat.add_assoc,Nat.add_comm 1 j] at h3)
  rcases Nat.lt_or_eq_of_le hk with hlt|rfl
  ·have e:i-k=(i-(k+1))+1:=by omega
   rw[e] at ho ht
   have ih:=fun S'=>je_ hX hY os ts (k+1) S' hlt (by simpa using ho) (by simpa using ht) (shift S')
   simp only[mix]
   have:Y k=X k:=by rw[hY k];have:(k == i)=false:=(by simp;omega);rw[this,Bool.or_false]
   rw[this]
   exact ih _
  ·simp only[Nat.sub_self,List.getElem?_cons_zero,Option.some.injEq] at ho ht
   subst ho ht
   simp only[mix,hX,Bool.false_eq_true,if_false]
   have hYk:Y k=true:=by rw[hY k];simp
   rw[hYk]
   simp only[if_true]
   have same:∀ (os:List Oper) (ts:List TI) (m:Nat) (S:St),k<m→mix Y m os ts S=mix X m os ts S:=by
    intro os
    induction os with
    | nil=>intro ts m S _;rfl
    | cons o os ih =>
     intro ts m S hm
     cases ts with
     | nil=>rfl
     | cons t ts =>
      simp only[mix]
      have:Y m=X m:=by rw[hY m];have:(m == k)=false:=(by simp;omega);rw[this,Bool.or_false]
      rw[this]
      exact ih ts (m+1) _ (by omega)
   rw[same os ts (k+1) _ (by omega)]
   exact sx_ X _ _ os ts (k+1) S fun j o t h1 h2 h3=>shift S j o t (by omega) h1 h2 h3
theorem yf_ (S:St) (d:Option Tmp) (e:Eff):(S.app d e).sl.length=S.sl.length:=by cases d<;>simp[St.app,St.put]
theorem pQ_ (S:St) (d:Option Tmp) (e:Eff) (t:Nat):(S.app d e).at t=if d=some t∧t<S.sl.length then e.v else S.at t:=by
 cases d with
 | none=>simp[St.app,St.put,St.at]
 | some t' =>
  simp only[St.app,St.put,St.at,List.getElem?_set,Option.some.injEq]
  by_cases h:t'=t
  ·subst h
   by_cases hl:t'<S.sl.length
   ·simp[hl]
   ·simp[hl]
  ·simp[h]
theorem v8_ {X Y:Nat→Bool} {t:Nat}:∀ (os:List Oper) (ts:List TI) (k:Nat) (S S':St),S.sl.length=S'.sl.length→S.at t=S'.at t→(∀ j o,os[j]? = some o→X (k+j)≠Y (k+j)→o.dst≠some t)→(mix X k os ts S).at t=(mix Y k os ts S').at t
 | [],_,_,_,_,_,h,_=>h
 | _::_,[],_,_,_,_,h,_=>h
 | o::os,ti::ts,k,S,S',hl,h,hd=>by
  simp only[mix]
  have h0:=hd 0 o rfl
  simp only[Nat.add_zero] at h0
  refine v8_ os ts (k+1) _ _ ?_ ?_ fun j o h1 h2=>hd (j+1) o (by simpa using h1) (by rwa[Nat.add_assoc,Nat.add_comm 1 j] at h2)
  ·split<;>split<;>simp only[yf_,hl]
  ·cases hx:X k<;>cases hy:Y k<;>simp only[Bool.false_eq_true,if_true,if_false]
   ·exact h
   ·rw[pQ_,if_neg (fun e=>h0 (by rw[hx,hy];simp) e.1)];exact h
   ·rw[pQ_,if_neg (fun e=>h0 (by rw[hx,hy];simp) e.1)];exact h
   ·rw[pQ_,pQ_,hl,h]
theorem sv_ {X Y:Nat→Bool} {q:Nat}:∀ (os:List Oper) (ts:List TI) (k:Nat) (S S':St),getB S.bx q=getB S'.bx q→(∀ j t,ts[j]? = some t→X (k+j)≠Y (k+j)→q∉t.ts.wr)→getB (mix X k os ts S).bx q=getB (mix Y k os ts S').bx q
 | [],_,_,_,_,h,_=>h
 | _::_,[],_,_,_,h,_=>h
 | o::os,ti::ts,k,S,S',h,hd=>by
  simp only[mix]
  have h0:=hd 0 ti rfl
  simp only[Nat.add_zero] at h0
  refine sv_ os ts (k+1) _ _ ?_ fun j t h1 h2=>hd (j+1) t (by simpa using h1) (by rwa[Nat.add_assoc,Nat.add_comm 1 j] at h2)
  cases hx:X k<;>cases hy:Y k<;>simp only[Bool.false_eq_true,if_true,if_false]
  ·exact h
  ·rw[a6_,bD_ _ (h0 (by rw[hx,hy];simp))];exact h
  ·rw[a6_,bD_ _ (h0 (by rw[hx,hy];simp))];exact h
  ·rw[a6_,a6_];exact bR_ _ h
theorem pp_ {k:Nat} {x:AV} (hx:AV.has k x=false):∀ (cs:List AV) (t:Nat),ah_ k cs=false→ah_ k (cs.set t x)=false
 | [],_,_=>rfl
 | c::cs,0,h=>by simp only[ah_,Bool.or_eq_false_iff] at h;simp[ah_,hx,h.2]
 | c::cs,t+1,h=>by simp only[ah_,Bool.or_eq_false_iff] at h;simp[ah_,h.1,pp_ hx cs t h.2]
theorem pq_ {k j:Nat} {b:Box} (hj:j≠k) (hb:ah_ k b.cs=false):∀ (bx:Bxs),dN_ k bx=false→dN_ k (setB bx j b)=false
 | [],_=>by simp[setB,dN_,hb,hj]
 | (i,c)::r,h=>by
  simp only[dN_,Bool.or_eq_false_iff] at h
  simp only[setB]
  split
  ·simp[dN_,hb,hj,e2_ h.2]
  ·simp[dN_,h.1.2,pq_ hj hb r h.2];simpa using h.1.1
theorem h8_ {k:Nat}:∀ (l bx:Bxs),dN_ k bx=false→dN_ k l=false→dN_ k (c2_ bx l)=false
 | [],_,h,_=>h
 | (j,b)::l,bx,h,hl=>by
  simp only[dN_,Bool.or_eq_false_iff,beq_eq_false_iff_ne] at hl
  exact h8_ l _ (pq_ hl.1.1 hl.1.2 bx h) hl.2
theorem app_has {S:St} {k:Nat} (d:Option Tmp) {e:Eff} (hS:S.has k=false) (he:k∉aM_ e.v++(uK_ e.upd++uK_ e.add)):(S.app d e).has k=false:=by
 simp only[List.mem_append,not_or] at he
 have h1:AV.has k e.v=false:=by rw[eI_];simpa using he.1
 have h2:dN_ k e.upd=false:=by rw[kf_];simpa using he.2.1
 have h3:dN_ k e.add=false:=by rw[kf_];simpa using he.2.2
 have h9:Nat.ble 1000 k=false:=by simp only[St.has,Bool.or_eq_false_iff] at hS;exact hS.2
 have hS:=aF_ hS
 simp only[St.has,Bool.or_eq_false_iff]
 rw[a6_]
 refine⟨⟨?_,h8_ _ _ (h8_ _ _ (h7_ hS.2) h2) h3⟩,h9⟩
 cases d with
 | none=>exact hS.1
 | some t=>exact pp_ h1 _ _ hS.1
theorem su_ {X:Nat→Bool} {q:Nat}:∀ (os:List Oper) (ts:List TI) (k:Nat) (S:St),S.has q=false→(∀ j t,ts[j]? = some t→X (k+j)=true→q∉t.ts.occ)→(mix X k os ts S).has q=false
 | [],_,_,_,h,_=>h
 | _::_,[],_,_,h,_=>h
 | o::os,ti::ts,k,S,h,hd=>by
  simp only[mix]
  refine su_ os ts (k+1) _ ?_ fun j t h1 h2=>hd (j+1) t (by simpa using h1) (by rwa[Nat.add_assoc,Nat.add_comm 1 j] at h2)
  split
  ·rename_i hk;exact app_has _ h (hd 0 ti rfl (by simpa using hk))
  ·exact h
/-! ### the way in the order of the text -/
def PathD (P:Program) (ds:Dn) (pn:Pn) (G:List (Option Tmp)):List Oper→St→List TI→St→Prop
 | [],S,[],S'=>S'=S
 | o::os,S,t::ts,S'=>LStep P ds pn G o S t.e t.fp∧PathD P ds pn G os (S.app o.dst t.e) ts S'
 | _,_,_,_=>False
theorem gu_ {P:Program} {ds:Dn} {pn:Pn} {G:List (Option Tmp)} {K:List TI→St→Prop}:∀ (os:List Oper) (S:St) (acc:List TI),RunD P ds pn G os S acc K→∃ ts S',PathD P ds pn G os S ts S'∧K (acc.reverse++ts) S'
 | [],S,acc,h=>⟨[],S,rfl,by rw[List.append_nil];exact h⟩
 | o::os,S,acc,h=>by
  obtain⟨e,fp,hl,_,hr⟩:=h
  obtain⟨ts,S',hp,hk⟩:=gu_ os _ _ hr
  exact⟨⟨e,fp⟩::ts,S',⟨hl,hp⟩,by simpa using hk⟩
theorem PathD.len {P:Program} {ds:Dn} {pn:Pn} {G:List (Option Tmp)}:∀ {os:List Oper} {S:St} {ts:List TI} {S':St},PathD P ds pn G os S ts S'→ts.length=os.length
 | [],_,[],_,_=>rfl
 | _::_,_,_::_,_,h=>by simp[PathD.len h.2]
 | [],_,_::_,_,h=>h.elim
 | _::_,_,[],_,h=>h.elim
theorem PathD.all {P:Program} {ds:Dn} {pn:Pn} {G:List (Option Tmp)} {X:Nat→Bool}:∀ {os:List Oper} {S:St} {ts:List TI} {S':St} (k:Nat),PathD P ds pn G os S ts S'→(∀ j,j<os.length→X (k+j)=true)→mix X k os ts S=S'
 | [],_,[],_,_,h,_=>by rw[h];rfl
 | o::os,S,t::ts,S',k,h,hX=>by
  simp only[mix]
  have:=hX 0 (by simp)
  simp only[Nat.add_zero] at this
  rw[if_pos this]
  exact PathD.all (k+1) h.2 fun j hj=>by have:=hX (j+1) (by simpa using hj);rwa[Nat.add_assoc,Nat.add_comm 1 j]
 | [],_,_::_,_,_,h,_=>h.elim
 | _::_,_,[],_,_,h,_=>h.elim
theorem jB_ {P:Program} {ds:Dn} {pn:Pn} {G:List (Option Tmp)}:∀ {os:List Oper} {S:St} {ts:List TI} {S':St} (k:Nat),PathD P ds pn G os S ts S'→∀ i o,os[i]? = some o →
  ∃ t,ts[i]? = some t∧LStep P ds pn G o (mix (fun j=>decide (j<k+i)) k os ts S) t.e t.fp
 | [],_,[],_,_,_,i,o,ho=>by simp at ho
 | o'::os,S,t::ts,S',k,h,0,o,ho=>by
  simp only[List.getElem?_cons_zero,Option.some.injEq] at ho
  subst ho
  refine⟨t,rfl,?_⟩
  have none:∀ (os:List Oper) (ts:List TI) (m:Nat) (S:St),k≤m→mix (fun j=>decide (j<k+0)) m os ts S=S:=by
   intro os
   induction os with
   | nil=>intro ts m S _;rfl
   | cons o os ih =>
    intro ts m S hm
    cases ts with
    | nil=>rfl
    | cons t ts=>simp only[mix];rw[if_neg (by simp;omega)];exact ih ts (m+1) S (by omega)
  rw[none _ _ _ _ (Nat.le_refl k)]
  exact h.1
 | o'::os,S,t::ts,S',k,h,i+1,o,ho=>by
  obtain⟨t',ht,hl⟩:=jB_ (k+1) h.2 i o (by simpa using ho)
  refine⟨t',by simpa using ht,?_⟩
  simp only[mix]
  rw[if_pos (by simp)]
  rw[Nat.add_assoc,Nat.add_comm 1 i] at hl
  exact hl
 | [],_,_::_,_,_,h,_,_,_=>h.elim
 | _::_,_,[],_,_,h,_,_,_=>h.elim
end Go.Xe
namespace Go.Xe
open Go.RowKit
variable [Glob]
def tB_ (acc:Array Nat) (o:Oper):Nat:=o.after.toList.foldl (fun s e=>if Region.binds .any e=true then s|||2^e.on|||acc.getD e.on 0 else s) 0
def mU_:List Oper→Array Nat→Array Nat
 | [],acc=>acc
 | o::os,acc=>mU_ os (acc.push (tB_ acc o))
theorem sy_ {X:Nat→Bool} {acc:Array Nat} (hacc:∀ j i,(acc.getD j 0).testBit i=true→X j=true→X i=true):∀ (l:List Edge) (s:Nat),(∀ e∈l,Region.binds .any e=true→X e.on=true)→(∀ i,s.testBit i=true→X i=true) →
  ∀ i,(l.foldl (fun s e=>if Region.binds .any e=true then s|||2^e.on|||acc.getD e.on 0 else s) s).testBit i=true→X i=true
 | [],s,_,hs,i,h=>hs i h
 | e::l,s,hl,hs,i,h=>by
  simp only[List.foldl_cons] at h
  refine sy_ hacc l _ (fun e' he'=>hl e' (by simp[he'])) ?_ i h
  intro i hi
  split at hi
  ·rename_i hb
   have hx:=hl e (by simp) hb
   simp only[Nat.testBit_or,Bool.or_eq_true,Nat.testBit_two_pow,decide_eq_true_eq] at hi
   rcases hi with (hi|rfl)|hi
   ·exact hs i hi
   ·exact hx
   ·exact hacc _ i hi hx
  ·exact hs i hi
theorem nT_ {X:Nat→Bool}:∀ (os:List Oper) (acc:Array Nat),(∀ j i,(acc.getD j 0).testBit i=true→X j=true→X i=true) →
  (∀ m o,os[m]? = some o→X (acc.size+m)=true→∀ e∈o.after,Region.binds .any e=true→X e.on=true)→∀ j i,((mU_ os acc).getD j 0).testBit i=true→X j=true→X i=true
 | [],acc,h,_,j,i,hi,hj=>h j i hi hj
 | o::os,acc,h,hc,j,i,hi,hj=>by
  refine nT_ os (acc.push (tB_ acc o)) ?_ ?_ j i hi hj
  ·intro j i hi hj
   rw[Array.getD_eq_getD_getElem?,Array.getElem?_push] at hi
   split at hi
   ·rename_i hjs
    simp only[Option.getD_some] at hi
    subst hjs
    exact sy_ h _ 0 (fun e he=>hc 0 o rfl (by simpa using hj) e (by simpa using he)) (by simp) i hi
   ·exact h j i (by rw[Array.getD_eq_getD_getElem?];exact hi) hj
  ·intro m o' ho hX e he hb
   refine hc (m+1) o' (by simpa using ho) ?_ e he hb
   rw[Array.size_push] at hX
   rwa[Nat.add_assoc,Nat.add_comm 1 m] at hX
def rds (G:List (Option Tmp)) (o:Oper):List Nat :=
 (o.op.operands.toList.filterMap fun|.tmp t=>some t|_=>none)++(dq_ G o).toList
def ek_ (G:List (Option Tmp)) (oi oj:Oper) (ti tj:TS):Bool :=
 (match oi.dst with|some d => !(rds G oj).contains d&&oj.dst != some d|none=>true)&&ti.wr.all fun k => !tj.fp.contains k && !tj.wr.contains k
def lq_ (G:List (Option Tmp)) (anc:Array Nat) (i j:Nat) (oi oj:Oper) (ti tj:TS):Bool :=
 (anc.getD j 0).testBit i||(ti.add.all (fun k => !tj.occ.contains k)&&((anc.getD i 0).testBit j||ek_ G oi oj ti tj))
def fJ_ (zs:List Nat) (G:List (Option Tmp)) (os:List Oper) (ts:List TS):Bool :=
 (List.range os.length).all fun j=>match os[j]?,ts[j]? with
  | some oj,some tj=>oj.after.toList.all (fun e => !Region.binds .any e||decide (e.on<j))&&decide ((mU_ os #[]).getD j 0<2^j)&&(match oj.dst with|some d => !zs.contains d|none=>true) &&
   (List.range os.length).all fun i=>i == j||match os[i]?,ts[i]? with
    | some oi,some ti=>lq_ G (mU_ os #[]) i j oi oj ti tj
    | _,_=>false
  | _,_=>false
structure DrawOk (Z:List Nat) (G:List (Option Tmp)) (os:List Oper) (ts:List TS):Prop where
 edge:∀ (j:Nat) (o:Oper),os[j]? = some o→∀ e∈o.after,Region.binds .any e=true→e.on<j
 low:∀ j,j<os.length→∀ i,j≤i→((mU_ os #[]).getD j 0).testBit i=false
 zs:∀ (j:Nat) (o:Oper),os[j]? = some o→∀ d∈Z,o.dst≠some d
 pair:∀ (i j:Nat) (oi oj:Oper) (ti tj:TS),os[i]? = some oi→os[j]? = some oj→ts[i]? = some ti→ts[j]? = some tj→i≠j→lq_ G (mU_ os #[]) i j oi oj ti tj=true
theorem s7_ {zs:List Nat} {G:List (Option Tmp)} {os:List Oper} {ts:List TS} (h:fJ_ zs G os ts=true):DrawOk zs G os ts:=by
 have key:∀ j oj,os[j]? = some oj→∃ tj,ts[j]? = some tj∧(∀ e∈oj.after,Region.binds .any e=true→e.on<j)∧(mU_ os #[]).getD j 0<2^j∧(∀ d∈zs,oj.dst≠some d)∧∀ i oi ti,os[i]? = some oi→ts[i]? = some ti→i≠j→lq_ G (mU_ os #[]) i j oi oj ti tj=true:=by
  intro j oj hj
  have hlt:j<os.length:=(List.getElem?_eq_some_iff.1 hj).1
  have h1:=List.all_eq_true.1 h j (List.mem_range.2 hlt)
  rw[hj] at h1
  cases htj:ts[j]? with
  | none=>rw[htj] at h1;simp at h1
  | some tj =>
   rw[htj] at h1
   simp only[Bool.and_eq_true] at h1
   obtain⟨⟨⟨h2,h3⟩,h4⟩,h5⟩:=h1
   refine⟨tj,rfl,fun e he hb=>?_,by simpa using h3,fun d hd hdst=>?_,fun i oi ti hi hti hne=>?_⟩
   ·have:=List.all_eq_true.1 h2 e (by simpa using he)
    simpa [hb] using this
   ·rw[hdst] at h4;simp at h4;exact h4 hd
   ·have hil:i<os.length:=(List.getElem?_eq_some_iff.1 hi).1
    have:=List.all_eq_true.1 h5 i (List.mem_range.2 hil)
    rw[hi,hti] at this
    simpa [hne] using this
 refine⟨fun j o hj=>?_,fun j hj i hi=>?_,fun j o hj=>?_,fun i j oi oj ti tj hi hj hti htj hne=>?_⟩
 ·obtain⟨_,_,h1,_⟩:=key j o hj;exact h1
 ·obtain⟨_,_,_,h1,_⟩:=key j _ (List.getElem?_eq_getElem hj)
  exact Nat.testBit_lt_two_pow (Nat.lt_of_lt_of_le h1 (Nat.pow_le_pow_right (by omega) hi))
 ·obtain⟨_,_,_,_,h1,_⟩:=key j o hj;exact h1
 ·obtain⟨tj',e,_,_,_,h1⟩:=key j oj hj
  rw[htj] at e;cases e
  exact h1 i oi ti hi hti hne
theorem Rel.drew {ds:Dn} {w0:World} {I0 F:Nat→Prop} {S:St} {I:Nat→Prop} {β:Nat→Value} {a:Act} {w:World} (hr:Rel ds w0 I0 F S I β a w):Rel ds w0 I0 F S I β a w.drew:=by
 have hg:Gb w w.drew none:=⟨⟨rfl,rfl,rfl,Nat.le_refl _,fun _ _ _=>rfl⟩,Nat.le_succ _⟩
 exact⟨hr.mem.world hg (by simp) (fun k b h=>⟨h,.inl rfl⟩),DenAs.mono (w:=w) (w':=w.drew) ⟨fun _ h=>h,fun _ _=>rfl⟩ _ _ (fun _ _=>rfl) hr.sl,hr.dn,hr.fx⟩
theorem vm_ {P:Program} {ds:Dn} {pn:Pn} {ops:Array Oper} {Q:Exit→Act→World→Prop} {w0:World} {I0 F:Nat→Prop} {S S':St} {ts:List TI}
  (hQ:∀ ch a w,pn.ok ch→(∃ bx I β,PRel ds w0 I0 F pn bx I β a w)→Q (.panic ch) a w)
  (hp:PathD P ds pn (ops.toList.map (·.dst)) ops.toList S ts S') (hok:DrawOk (pn.zs.map (·.1)) (ops.toList.map (·.dst)) ops.toList (ts.map TI.ts))
  (hfr:∀ t∈ts,∀ p∈t.e.add,S.has p.1=false)
  (hK:∀ I' β' a' w',Rel ds w0 I0 F S' I' β' a' w'→Q .normal a' w') :
  ∀ (fuel:Nat) (listed:Array Bool) (I:Nat→Prop) (β:Nat→Value) (a:Act) (w:World),listed.size=ops.size→listed.toList.count false≤fuel →
   (∀ j o,ops[j]? = some o→listed.getD j false=true→∀ e∈o.after,Region.binds .any e=true→listed.getD e.on false=true) →
   Rel ds w0 I0 F (mix (fun j=>listed.getD j false) 0 ops.toList ts S) I β a w→wpAnyIn (fO ds.ro) 1 P .any ops Q fuel listed a w:=by
 intro fuel
 have done:∀ (listed:Array Bool) (I:Nat→Prop) (β:Nat→Value) (a:Act) (w:World),listed.size=ops.size→Region.ready .any ops listed=[]→Rel ds w0 I0 F (mix (fun j=>listed.getD j false) 0 ops.toList ts S) I β a w→Q .normal a w:=by
  intro listed I β a w hsz hnil hr
  have hall:∀ j,j<ops.size→listed.getD j false=true:=by
   intro j
   induction j using Nat.strongRecOn with
   | _ j ih =>
    intro hj
    cases hl:listed.getD j false with
    | true=>rfl
    | false =>
     exfalso
     have hlj:j<listed.size:=by omega
     have h1:listed.getD j true=false:=by simpa [Array.getD,hlj] using hl
     have:j∈Region.ready .any ops listed:=mem_ready.2 ⟨h1,ops[j],by simp[hj],fun e he hb=>by
      have:=hok.edge j ops[j] (by simp[hj]) e he hb
      exact ih e.on this (by omega)⟩
     rw[hnil] at this
     cases this
  have:=PathD.all (X:=fun j=>listed.getD j false) 0 hp (fun j hj=>by simpa using hall j (by simpa using hj))
  rw[this] at hr
  exact hK I β a w hr
 induction fuel with
 | zero =>
  intro listed I β a w hsz hc _ hr
  have hnil:Region.ready .any ops listed=[]:=by
   cases hrd:Region.ready .any ops listed with
   | nil=>rfl
   | cons i l =>
    have hi:i∈Region.ready .any ops listed:=by rw[hrd];simp
    have h1:=(mem_ready.1 hi).1
    have hlt:i<listed.size:=by
     rcases Nat.lt_or_ge i listed.size with h|h
     ·exact h
     ·simp[Array.getD,Nat.not_lt.2 h] at h1
    have hm:false∈listed.toList:=by
     have:listed[i]=false:=by simpa [Array.getD,hlt] using h1
     rw[← this];simp
    have:=List.count_pos_iff.2 hm
    omega
  exact⟨hnil,done listed I β a w hsz hnil hr⟩
 | succ fuel ih =>
  intro listed I β a w hsz hc hcl hr
  refine⟨fun hnil=>done listed I β a w hsz hnil hr,fun i hi=>?_⟩
  obtain⟨hli,o,ho,hpre⟩:=mem_ready.1 hi
  have hlt:i<listed.size:=by
   rcases Nat.lt_or_ge i listed.size with h|h
   ·exact h
   ·simp[Array.getD,Nat.not_lt.2 h] at hli
  have hXi:listed.getD i false=false:=by simpa [Array.getD,hlt] using hli
  have hol:ops.toList[i]? = some o:=by simpa using ho
  obtain⟨t,ht,hstep⟩:=jB_ 0 hp i o hol
  simp only[Nat.zero_add] at hstep
  have hts:(ts.map TI.ts)[i]? = some t.ts:=by simp[ht]
  let X:Nat→Bool:=fun j=>listed.getD j false
  let Y:Nat→Bool:=fun j=>X j||j == i
  have hXanc:∀ j k,((mU_ ops.toList #[]).getD j 0).testBit k=true→X j=true→X k=true :=
   nT_ ops.toList #[] (by simp) (fun m o hm hx e he hb=>by
    simp only[Array.size_empty,Nat.zero_add] at hx
    exact hcl m o (by simpa using hm) hx e he hb)
  have hYanc:∀ j k,((mU_ ops.toList #[]).getD j 0).testBit k=true→Y j=true→Y k=true :=
   nT_ ops.toList #[] (by simp) (fun m o' hm hx e he hb=>by
    simp only[Array.size_empty,Nat.zero_add,Y,Bool.or_eq_true,beq_iff_eq] at hx ⊢
    rcases hx with hx|rfl
    ·exact .inl (hcl m o' (by simpa using hm) hx e he hb)
    ·rw[hol] at hm;cases hm
     exact .inl (hpre e he hb))
  have hil:i<ops.toList.length:=(List.getElem?_eq_some_iff.1 hol).1
  have up:∀ j,X j=true→((mU_ ops.toList #[]).getD j 0).testBit i=false:=fun j hj=>by
   cases hb:((mU_ ops.toList #[]).getD j 0).testBit i with
   | false=>rfl
   | true=>have:=hXanc j i hb hj;simp only[X] at this;rw[hXi] at this;cases this
  have down:∀ j,X j=false→((mU_ ops.toList #[]).getD i 0).testBit j=false:=fun j hj=>by
   cases hb:((mU_ ops.toList #[]).getD i 0).testBit j with
   | false=>rfl
   | true =>
    have h1:=hYanc i j hb (by simp[Y])
    have h2:j≠i:=fun e=>by subst e;rw[hok.low j hil j (Nat.le_refl _)] at hb;cases hb
    simp[Y,hj,h2] at h1
  -- whoever is listed and not before i,or before i and not listed,is apart from i
  have far:∀ j oj tj,ops.toList[j]? = some oj→ts[j]? = some tj→X j≠decide (j<i)→ek_ (ops.toList.map (·.dst)) oj o tj.ts t.ts=true∧(i<j→ek_ (ops.toList.map (·.dst)) o oj t.ts tj.ts=true):=by
   intro j oj tj hoj htj hne
   have hji:j≠i:=fun e=>by
    subst e
    exact hne (by rw[show X j=false from hXi,decide_eq_false (Nat.lt_irrefl _)])
   have htj':(ts.map TI.ts)[j]? = some tj.ts:=by simp[htj]
   have hjl:j<ops.toList.length:=(List.getElem?_eq_some_iff.1 hoj).1
   have p1:=hok.pair j i oj o tj.ts t.ts hoj hol htj' hts hji
   have p2:=hok.pair i j o oj t.ts tj.ts hol hoj hts htj' (Ne.symm hji)
   have b1:((mU_ ops.toList #[]).getD i 0).testBit j=false∧((mU_ ops.toList #[]).getD j 0).testBit i=false:=by
    cases hxj:X j with
    | true =>
     rw[hxj] at hne
     have hij:i<j:=by simp at hne;omega
     exact⟨hok.low i hil j (by omega),up j hxj⟩
    | false =>
     rw[hxj] at hne
     have hij:j<i:=by simpa using Ne.symm hne
     exact⟨down j hxj,hok.low j hjl i (by omega)⟩
   simp only[lq_,b1.1,b1.2,Bool.false_or,Bool.and_eq_true] at p1 p2
   exact⟨p1.2,fun _=>p2.2⟩
  have hmixat:∀ s,(∀ j oj tj,ops.toList[j]? = some oj→ts[j]? = some tj→X j≠decide (j<i)→oj.dst≠some s)→(mix X 0 ops.toList ts S).at s=(mix (fun j=>decide (j<i)) 0 ops.toList ts S).at s:=fun s hs =>
   v8_ ops.toList ts 0 S S rfl rfl fun j oj hoj hne=>by
    simp only[Nat.zero_add] at hne
    have hjl:j<ts.length:=by rw[hp.len];exact (List.getElem?_eq_some_iff.1 hoj).1
    exact hs j oj _ hoj (List.getElem?_eq_getElem hjl) hne
  have hsame:jS_ o pn t.fp (mix (fun j=>decide (j<i)) 0 ops.toList ts S) (mix X 0 ops.toList ts S):=by
   refine⟨fun x hx=>?_,fun p hpz=>?_,fun k hk=>?_⟩
   ·cases x with
    | tmp s =>
     refine hmixat s fun j oj tj hoj htj hne hd=>?_
     have:=(far j oj tj hoj htj hne).1
     simp only[ek_,hd,Bool.and_eq_true,Bool.not_eq_true'] at this
     have hc:s∈rds (ops.toList.map (·.dst)) o:=by
      refine List.mem_append_left _ (List.mem_filterMap.2 ⟨.tmp s,by simpa using hx,rfl⟩)
     rw[List.contains_iff_mem.2 hc] at this
     exact absurd this.1.1 (by simp)
    | _=>rfl
   ·exact hmixat p.1 fun j oj tj hoj _ _=>hok.zs j oj hoj p.1 (List.mem_map.2 ⟨p,hpz,rfl⟩)
   ·refine sv_ ops.toList ts 0 S S rfl fun j tj htj hne hq=>?_
    simp only[Nat.zero_add] at hne
    have hjl:j<ops.toList.length:=by rw[← hp.len];exact (List.getElem?_eq_some_iff.1 htj).1
    have:=(far j _ tj (List.getElem?_eq_getElem hjl) htj hne).1
    simp only[ek_,Bool.and_eq_true] at this
    have h3:=List.all_eq_true.1 this.2 k hq
    have hc:t.ts.fp.contains k=true:=List.contains_iff_mem.2 hk
    rw[hc] at h3
    simp at h3
  have hgs:∀ s,dq_ (ops.toList.map (·.dst)) o=some s→(mix X 0 ops.toList ts S).at s=(mix (fun j=>decide (j<i)) 0 ops.toList ts S).at s:=fun s hs =>
   hmixat s fun j oj tj hoj htj hne hd=>by
    have:=(far j oj tj hoj htj hne).1
    simp only[ek_,hd,Bool.and_eq_true,Bool.not_eq_true'] at this
    have hc:s∈rds (ops.toList.map (·.dst)) o:=List.mem_append_right _ (by rw[hs];simp)
    rw[List.contains_iff_mem.2 hc] at this
    exact absurd this.1.1 (by simp)
  have hfresh:∀ p∈t.e.add,(mix X 0 ops.toList ts S).has p.1=false:=fun p hpa =>
   su_ ops.toList ts 0 S (hfr t (List.mem_of_getElem? ht) p hpa) fun j tj htj hxj=>by
    simp only[Nat.zero_add] at hxj
    have hjl:j<ops.toList.length:=by rw[← hp.len];exact (List.getElem?_eq_some_iff.1 htj).1
    have hji:i≠j:=fun e=>by
     subst e
     rw[show X i=false from hXi] at hxj
     cases hxj
    have p2:=hok.pair i j o _ t.ts tj.ts hol (List.getElem?_eq_getElem hjl) hts (by simp[htj]) hji
    simp only[lq_,up j hxj,Bool.false_or,Bool.and_eq_true] at p2
    have:=List.all_eq_true.1 p2.1 p.1 (List.mem_map.2 ⟨p,hpa,rfl⟩)
    simpa using this
  have hins:(mix Y 0 ops.toList ts S).eqv ((mix X 0 ops.toList ts S).app o.dst t.e) :=
   je_ (i:=i) (X:=X) (Y:=Y) hXi (fun _=>rfl) ops.toList ts 0 S (Nat.zero_le _) (by simpa using hol) (by simpa using ht) fun j oj tj hij hoj htj hxj=>by
    simp only[Nat.zero_add] at hxj hij
    have:=(far j oj tj hoj htj (by rw[hxj];simp;omega)).2 hij
    simp only[ek_,Bool.and_eq_true] at this
    refine⟨fun s hs hd=>?_,fun k hk hk'=>?_⟩
    ·rw[hs,hd] at this
     simp at this
    ·have h3:=List.all_eq_true.1 this.2 k hk
     rw[show tj.ts.wr.contains k=true from List.contains_iff_mem.2 hk'] at h3
     simp at h3
  have hgood:=hstep (mix X 0 ops.toList ts S) hsame hgs hfresh w0 I0 F I β a w hr (wpAnyIn (fO ds.ro) 1 P .any ops Q fuel (listed.setIfInBounds i true)) Q
   (fun I' β' a' w' hr'=>?_) (fun ch I' β' w' hch hpr=>hQ ch a w' hch ⟨_,I',β',hpr⟩)
  ·unfold wpOpIn
   rw[ho]
   simp only
   rw[iZ_]
   split
   ·rename_i hw;rw[if_pos hw] at hgood;exact hgood
   ·rename_i hw;rw[if_neg hw] at hgood;exact⟨fun _ _=>trivial,hgood⟩
  ·have hgetY:∀ j,(listed.setIfInBounds i true).getD j false=Y j:=fun j=>by
    by_cases hji:j=i
    ·subst hji;simp[Y,hlt,Array.getD]
    ·have:(listed.setIfInBounds i true).getD j false=listed.getD j false:=getD_set_ne false (Ne.symm hji)
     rw[this];simp[Y,X,hji]
   refine ih (listed.setIfInBounds i true) I' β' a' w' (by simpa using hsz) ?_ ?_ ?_
   ·rw[Array.toList_setIfInBounds,List.count_set (by simpa using hlt)]
    have h1:listed.toList[i]'(by simpa using hlt)=false:=by simpa [Array.getD,hlt] using hXi
    have hm:false∈listed.toList:=by rw[← h1];exact List.getElem_mem _
    have:=List.count_pos_iff.2 hm
    simp only[h1,beq_self_eq_true,if_true,Bool.true_eq_false,beq_iff_eq,if_false]
    omega
   ·intro j oj hoj hj e he hb
    rw[hgetY] at hj ⊢
    simp only[Y,Bool.or_eq_true,beq_iff_eq] at hj ⊢
    rcases hj with hj|rfl
    ·exact .inl (hcl j oj hoj hj e he hb)
    ·rw[ho] at hoj;cases hoj
     exact .inl (hpre e he hb)
   ·have:(fun j=>(listed.setIfInBounds i true).getD j false)=Y:=funext hgetY
    rw[this]
    exact hr'.eqv hins.symm
end Go.Xe
namespace Go.Xe
open Go.RowKit
variable [Glob]
def k9_ (s:ByteArray):List Value:=s.data.toList.map fun b=>.int .u8 b.toNat
theorem cf_ (s:ByteArray):(k9_ s).length=s.size:=by simp only[k9_,List.length_map,Array.length_toList];rfl
theorem oC_ (s:ByteArray):(k9_ s).toArray=s.data.map fun b=>Value.int .u8 b.toNat:=by
 apply Array.ext';simp[k9_]
theorem cr_ {P:Program} (w:World) (size:Nat) (s:ByteArray):(Builtin.firstCells size s.size (.string s)).run P w=.ok (k9_ s).toArray w:=by
 simp[Builtin.firstCells,oC_]
theorem db_ {P:Program} (w:World) {t u ty e:TypeId} {i:TypeInfo} {z:Value} {bytes:Nat} (ht:P.underlying t=some (.slice e)) (hu:P.underlying u=some .string) (hi:P.info? e=some i) (hz:i.zero=some z)
  (hsize:i.size=1) (hby:i.bytes=bytes) (hzs:z.cells.size=1)
  {v:Value} {n:Nat} {xs:List Value} (hown:w.ownsRow 0 e 1 v n xs) (s:ByteArray)
  (h63:n+s.size≤maxLen) (hbytes:(n+s.size)*bytes≤140737488355328) :
  ∃ v' w',(Builtin.append_ #[t,u] ty #[v,.string s]).run P w=.ok v' w'∧w'.ownsRow 0 e 1 v' (n+s.size) (xs++k9_ s)∧Gb w w' v.ownBlock∧(v'.ownBlock=v.ownBlock∨∀ g,v'.ownBlock=some g→w.heap.size≤g):=by
 subst hby
 have hsmall:n+s.size≤9223372036854775807:=by simp only[maxLen] at h63;omega
 have hlen:(xs++k9_ s).length=(n+s.size)*1:=by rw[List.length_append,hown.1,cf_,Nat.add_mul];omega
 have hxl:xs.length=n:=by have:=hown.1;omega
 have hf:=cr_ (P:=P) w 1 s
 have hfd:=cr_ (P:=P) w.drew 1 s
 have grown:∀ (old:Nat),
   (w.drew.alloc (.cells (xs.toArray++(k9_ s).toArray++Builtin.zeroCells z.cells (grownCap w (n+s.size) old e-(n+s.size))) e)).ownsRow 0 e 1
    (.slice (some ⟨w.heap.size,0,none⟩) (n+s.size) (grownCap w (n+s.size) old e)) (n+s.size) (xs++k9_ s) ∧
   ∀ row,Gb w (w.drew.alloc (.cells (xs.toArray++(k9_ s).toArray++Builtin.zeroCells z.cells (grownCap w (n+s.size) old e-(n+s.size))) e)) row:=by
  intro old
  have hge:=grownCap_ge w (n+s.size) old e
  have hcm:grownCap w (n+s.size) old e≤maxLen:=grownCap_le_maxLen w (n+s.size) old e h63
  refine⟨⟨hlen,.inr ⟨w.heap.size,_,_,rfl,Nat.zero_le _,heap_alloc_new w.drew _,hge,hcm,?_,?_⟩⟩,fun row=>bC_ w (Gb.alloc w.drew _ row)⟩
  ·simp only[Array.size_append,List.size_toArray,size_zeroCells,hzs,hxl,cf_]
   omega
  ·simp only[Array.toList_append,List.append_assoc]
   rw[← List.append_assoc,← hlen]
   exact List.take_left
 have fresh:∀ (cap:Nat) g,Value.ownBlock (.slice (some ⟨w.heap.size,0,none⟩) (n+s.size) cap)=some g→w.heap.size≤g:=fun cap g hg=>by simp[Value.ownBlock] at hg;omega
 rcases hown.2 with⟨rfl,rfl⟩|⟨g,cap,cur,rfl,_,hg,hnc,hcm,hcs,htk⟩
 ·have hx:xs=[]:=List.eq_nil_of_length_eq_zero (by simpa using hown.1)
  subst hx
  by_cases hm:s.size=0
  ·have hn:k9_ s=[]:=List.eq_nil_of_length_eq_zero (by rw[cf_];exact hm)
   rw[hm] at hf
   refine⟨.slice none 0 0,w,?_,by rw[hn,hm];exact World.ownsRow_nil w 0 e 1,⟨⟨rfl,rfl,rfl,Nat.le_refl _,fun _ _ _=>rfl⟩,Nat.le_refl _⟩,.inl rfl⟩
   simp[Builtin.append_,run_underlying ht,run_underlying hu,sizeOf,typeInfo,hi,hsize,Builtin.lenOf,hm,hf]
  ·have hr:=run_append_nil_string (P:=P) w t u ty e i z ht hu hi hz s (by omega) (by omega) (by have hb:=hbytes;simp only[Nat.zero_add] at hb;omega)
   rw[← oC_] at hr
   have hgr:=grown 0
   simp only[Nat.zero_add,List.nil_append,Array.empty_append] at hgr ⊢
   refine⟨_,_,hr,hgr.1,hgr.2 _,.inr fun g hg=>?_⟩
   have:=fresh (grownCap w s.size 0 e) g
   simp only[Nat.zero_add] at this
   exact this hg
 ·have hcs:cur.size=cap:=by omega
  by_cases hroom:n+s.size≤cap
  ·have hst:=run_storeCells_at P g n e (k9_ s) 0 cur w hg (by rw[cf_];omega) (fun u hu=>by
    simp only[k9_,List.mem_map] at hu
    obtain⟨b,_,rfl⟩:=hu
    rfl)
   simp only[Nat.add_zero] at hst
   refine⟨_,_,?_,⟨hlen,.inr ⟨g,cap,_,rfl,Nat.zero_le _,setRow_heap w g cur (cur.toList.take n++k9_ s++cur.toList.drop (n+(k9_ s).length)).toArray e _ hg,hroom,hcm,?_,?_⟩⟩,aU_ w g _,.inl rfl⟩
   ·simp[Builtin.append_,run_underlying ht,run_underlying hu,sizeOf,typeInfo,hi,hsize,Builtin.lenOf,hroom,hf,Addr.add_lit,hst]
   ·simp only[List.size_toArray,List.length_append,List.length_take,List.length_drop,Array.length_toList,cf_]
    omega
   ·have htk:cur.toList.take n=xs:=by rw[← htk,Nat.mul_one]
    rw[htk,← hlen]
    exact List.take_left
  ·have holds:∀ j u,xs[j]? = some u→w.cell? ((⟨g,0,none⟩:Addr).add j)=some u:=hown.cells (g:=g) rfl
   have hn:¬ (n+s.size≤cap):=hroom
   have h63':¬ (9223372036854775807<((n:Int)+(s.size:Int))):=by omega
   have h48':¬ (281474976710656<Builtin.nextslicecap (n+s.size) cap*i.bytes):=by have:=growslice_fits (old:=cap) (by omega:cap<n+s.size) hbytes;omega
   have hfo:=run_firstCells_some (P:=P) w.drew 1 n ⟨g,0,none⟩ n cap xs (by omega) (by simpa using holds)
   refine⟨_,_,?_,(grown cap).1,(grown cap).2 _,.inr (fresh _)⟩
   simp[Builtin.append_,run_underlying ht,run_underlying hu,sizeOf,typeInfo,zeroValue,hi,hz,hsize,Builtin.lenOf,hn,h63',h48',Question.forced,hfd,hfo,newRow,grownCap]
   congr 2
   apply Array.ext'
   simp[List.append_assoc]
def eU_ (τ:Tab) (dst:Option Tmp) (T T':TypeId) (x y:Operand) (S:St):OpR :=
 match dst,τ T,τ T',S.ev y with
 | some k,some ⟨.slice E,_,_,_⟩,some ⟨.string,_,_,_⟩,.d (.v (.string s))=>(τ E).bind fun te=>match S.ev x with
  | .row j=>match getB S.bx j with
   | some (.row T2 sz n cs)=>some (sz=1∧te.size=1∧T2=E∧(n+s.size)*(te.bytes+1)≤140737488355328,
     ⟨.row k,[j],[],[(k,.row E 1 (n+s.size) (cs++(s.data.toList.map aN_).map .d))]⟩,[j])
   | _=>none
  | .d (.v (.slice none 0 0))=>some (te.size=1∧s.size*(te.bytes+1)≤140737488355328,⟨.row k,[],[],[(k,.row E 1 s.size ((s.data.toList.map aN_).map .d))]⟩,[])
  | _=>none
 | _,_,_,_=>none
theorem oB_ {w:World} {I:Nat→Prop} {β:Nat→Value} (l:List UInt8):DenAs w I β ((l.map aN_).map .d) (l.map fun b=>.int .u8 b.toNat):=by
 induction l with
 | nil=>rfl
 | cons b l ih=>exact⟨_,_,rfl,by rw[DenA,aN_,Den],ih⟩
theorem iK_ {P:Program} {τ:Tab} (hτ:aq_ P τ) {o:Oper} {T T':TypeId} {x y:Operand} (ho:o.op=.call ⟨.builtin .append,#[x,y],#[T,T']⟩):aS_ P o (eU_ τ o.dst T T' x y):=by
 intro ds pn S side e fp h hside S1 hs hf
 have ex:=hs.1 x (by simp[ho,Op.operands,Call.operands])
 have ey:=hs.1 y (by simp[ho,Op.operands,Call.operands])
 unfold eU_ at h
 rw[← ex,← ey] at h
 split at h
 ·rename_i k E _ _ _ _ _ _ s hd ht ht' hy
  obtain⟨d,hu,hk⟩:=(hτ T _ ht).und
  obtain⟨d',hu',hk'⟩:=(hτ T' _ ht').und
  simp only[TK.ok] at hk hk'
  subst hk;subst hk'
  cases hte:τ E with
  | none=>rw[hte] at h;cases h
  | some te =>
   obtain⟨i,z,hi,his,hib,hiz,hzc,hzl,_⟩:=(hτ E te hte).info
   rw[hte,Option.bind_some] at h
   have hzs:z.cells.size=te.size:=by rw[← Array.length_toList,hzc,hzl]
   split at h
   ·rename_i j hx
    split at h
    ·rename_i T2 sz n cs hb
     cases h
     simp only at hside hf hs ⊢
     obtain⟨rfl,hts,rfl,hbnd⟩:=hside
     have hk0:S1.has k=false:=hf _ (List.mem_singleton.2 rfl)
     have hk1:=aF_ hk0
     have hmax:n+s.size≤maxLen:=by
      simp only[maxLen]
      have:n+s.size≤(n+s.size)*(te.bytes+1):=Nat.le_mul_of_pos_right _ (by omega)
      omega
     have hbyt:(n+s.size)*te.bytes≤140737488355328:=Nat.le_trans (Nat.mul_le_mul_left _ (by omega)) hbnd
     refine Core.world fun w0 I0 F I β a w hr=>?_
     have hb1:=(hs.2.2 j (by simp)).trans hb
     obtain⟨xs,how,hdx,hox⟩:=hr.mem.bxs j _ hb1
     have hv:=hr.ev x
     have hvy:=hr.ev y
     rw[hx,DenA] at hv
     rw[hy,DenA_v] at hvy
     obtain⟨v',w',hrun,how',hg,hfr⟩:=db_ (P:=P) w (ty:=o.type) hu hu' hi hiz (his.trans hts) hib (hzs.trans hts) how s hmax hbyt
     refine⟨v',w',I,upd β k v',?_,?_⟩
     ·obtain⟨C,hC⟩:=aw_ (P:=P) ho;rw[hC];simp[builtin,hv.1,hvy,hrun]
     ·exact hr.appended hk0 hg hfr (bk_ how') (.inr ⟨j,_,rfl,hb1,rfl,kN_ how⟩) how' (hdx.append (oB_ _))
       (fun u hu=>by
        rcases List.mem_append.1 hu with hu|hu
        ·exact hox u hu
        ·simp only[k9_,List.mem_map] at hu
         obtain⟨b,_,rfl⟩:=hu
         rfl) (by have h5:=(hasB_get hk1.2).2 j _ hb1;simp only[Box.cs] at h5;rw[hasL_append,h5,hasL_d];rfl) o.dst
    ·cases h
   ·rename_i hx
    cases h
    simp only at hside hf hs ⊢
    obtain⟨hts,hbnd⟩:=hside
    have hk0:S1.has k=false:=hf _ (List.mem_singleton.2 rfl)
    have hk1:=aF_ hk0
    have hmax:0+s.size≤maxLen:=by
     simp only[maxLen]
     have:s.size≤s.size*(te.bytes+1):=Nat.le_mul_of_pos_right _ (by omega)
     omega
    have hbyt:(0+s.size)*te.bytes≤140737488355328:=by
     rw[Nat.zero_add];exact Nat.le_trans (Nat.mul_le_mul_left _ (by omega)) hbnd
    refine Core.world fun w0 I0 F I β a w hr=>?_
    have hv:=hr.ev x
    have hvy:=hr.ev y
    rw[hx,DenA_v] at hv
    rw[hy,DenA_v] at hvy
    obtain⟨v',w',hrun,how',hg,hfr⟩:=db_ (P:=P) w (ty:=o.type) hu hu' hi hiz (his.trans hts) hib (hzs.trans hts) (World.ownsRow_nil w 0 E 1) s hmax hbyt
    rw[Nat.zero_add,List.nil_append] at how'
    refine⟨v',w',I,upd β k v',?_,?_⟩
    ·obtain⟨C,hC⟩:=aw_ (P:=P) ho;rw[hC];simp[builtin,hv,hvy,hrun]
    ·exact hr.appended (v:=.slice none 0 0) hk0 (l:=[]) hg hfr (bk_ how') (.inl rfl) how' (oB_ _)
      (fun u hu=>by
       simp only[k9_,List.mem_map] at hu
       obtain⟨b,_,rfl⟩:=hu
       rfl) (hasL_d _) o.dst
   ·cases h
 ·cases h
/-! ### the type that an interface's value has -/
def TK.isI:TK→Bool
 | .iface=>true
 | _=>false
def nS_ (b:Bool) (T:TypeId) (x:AV):OpR :=
 match b with
 | true=>none
 | false=>match x with
  | .d (.v (.iface t v))=>some (t=T,⟨.d (.v v),[],[],[]⟩,[])
  | .iface t y=>some (t=T,⟨y,[],[],[]⟩,[])
  | _=>none
def g0_ (τ:Tab) (x:Operand) (T:TypeId) (b:Bool) (S:St):OpR :=
 (τ T).bind fun te=>nS_ (te.k.isI||b) T (S.ev x)
theorem i5_ {P:Program} {T:TypeId} {te:TE} (h:TyOk P T te) (hk:te.k.isI=false) (v:Value) (xT:TypeId) (w:World):(Instr.typeAssert (.iface T v) xT T false).run P w=.ok v w:=by
 obtain⟨d,hd,hok⟩:=h.und
 unfold Instr.typeAssert
 cases hkk:te.k<;>rw[hkk] at hok hk<;>simp only[TK.ok,TK.isI] at hok hk
 case iface=>cases hk
 case struct=>obtain⟨a,rfl,_⟩:=hok;simp[run_underlying hd]
 case func=>obtain⟨a,b,c,rfl⟩:=hok;simp[run_underlying hd]
 all_goals (subst hok;simp[run_underlying hd])
theorem jP_ {P:Program} {τ:Tab} (hτ:aq_ P τ) {o:Oper} {x:Operand} {xT T:TypeId} {b:Bool} (ho:o.op=.typeAssert x xT T b):aS_ P o (g0_ τ x T b):=by
 intro ds pn S side e fp h hside S1 hs _
 unfold g0_ at h
 cases ht:τ T with
 | none=>rw[ht] at h;cases h
 | some te =>
  rw[ht,Option.bind_some] at h
  have ex:S1.ev x=S.ev x:=hs.1 x (by simp[ho,Op.operands])
  unfold nS_ at h
  split at h
  ·cases h
  ·rename_i hb
   simp only[Bool.or_eq_false_iff] at hb
   split at h
   ·rename_i t v hx
    cases h
    subst hside
    refine Core.value fun w0 I0 F I β a w hr=>⟨v,?_,DenA_v.2 rfl⟩
    have hv:=hr.ev x
    rw[ex,hx,DenA_v] at hv
    simp[execOp,ho,hv,hb.2,i5_ (hτ _ te ht) hb.1]
   ·rename_i t y hx
    cases h
    subst hside
    refine Core.value fun w0 I0 F I β a w hr=>?_
    have hv:=hr.ev x
    rw[ex,hx,DenA] at hv
    obtain⟨z,hz,hd⟩:=hv
    exact⟨z,by simp[execOp,ho,hz,hb.2,i5_ (hτ _ te ht) hb.1],hd⟩
   ·cases h
/-! ### equality of booleans -/
def Dv_ (op:BinOp) (x y:AV):OpR :=
 match x,y with
 | .d (.v (.bool a)),.d (.v (.bool b))=>match op with
  | .eql=>okV (.d (.v (.bool (a == b))))
  | .neq=>okV (.d (.v (.bool (!(a == b)))))
  | _=>none
 | _,_=>none
def kn_:Option TE→Bool
 | some ⟨.bool,_,_,_⟩=>true
 | _=>false
def uH_ (τ:Tab) (op:BinOp) (T:TypeId) (x y:Operand) (S:St):OpR :=
 match kn_ (τ T) with
 | true=>Dv_ op (S.ev x) (S.ev y)
 | false=>none
theorem gB_ {P:Program} {T:TypeId} (d:Nat) (hu:P.underlying T=some .bool) (a b:Bool) (w:World):(Op.equalIn (d+1) T (.bool a) (.bool b)).run P w=.ok (a == b) w:=by
 simp[Op.equalIn,run_underlying hu]
theorem qb_ {P:Program} {τ:Tab} (hτ:aq_ P τ) {o:Oper} {op:BinOp} {T T':TypeId} {x y:Operand} (ho:o.op=.binOp op T x y T'):aS_ P o (uH_ τ op T x y):=by
 intro ds pn S side e fp h hside S1 hs _
 have ex:=hs.1 x (by simp[ho,Op.operands])
 have ey:=hs.1 y (by simp[ho,Op.operands])
 unfold uH_ at h
 cases hb:kn_ (τ T) with
 | false=>rw[hb] at h;cases h
 | true =>
  rw[hb] at h
  have hu:P.underlying T=some .bool:=by
   unfold kn_ at hb
   split at hb
   ·rename_i ht
    obtain⟨d,hd,hok⟩:=(hτ T _ ht).und
    simp only[TK.ok] at hok
    rw[hd,hok]
   ·cases hb
  simp only at h
  unfold Dv_ at h
  split at h
  ·rename_i a b hx hy
   have heq:∀ w:World,(Op.equal T (.bool a) (.bool b)).run P w=.ok (a == b) w:=fun w=>gB_ 9999 hu a b w
   split at h
   ·cases h
    refine Core.value fun w0 I0 F I β A w hr=>⟨_,?_,DenA_v.2 rfl⟩
    have h1:=hr.ev x
    have h2:=hr.ev y
    rw[ex,hx,DenA_v] at h1
    rw[ey,hy,DenA_v] at h2
    simp[execOp,ho,h1,h2,eqGuard,binOp,heq]
   ·cases h
    refine Core.value fun w0 I0 F I β A w hr=>⟨_,?_,DenA_v.2 rfl⟩
    have h1:=hr.ev x
    have h2:=hr.ev y
    rw[ex,hx,DenA_v] at h1
    rw[ey,hy,DenA_v] at h2
    simp[execOp,ho,h1,h2,eqGuard,binOp,heq]
   ·cases h
  ·cases h
def orE (a b:OpR):OpR :=
 match a with
 | some r=>some r
 | none=>b
theorem p7_ {P:Program} {o:Oper} {f g:St→OpR} (hf:aS_ P o f) (hg:aS_ P o g):aS_ P o fun S=>orE (f S) (g S):=by
 intro ds pn S side e fp h hside
 change orE (f S) (g S)=_ at h
 unfold orE at h
 cases hfs:f S with
 | some r=>rw[hfs] at h;cases h;exact hf ds pn S side e fp hfs hside
 | none=>rw[hfs] at h;exact hg ds pn S side e fp h hside
end Go.Xe
namespace Go.Xe
open Go.RowKit
variable [Glob]
/-! ### all operations -/
def opA (τ:Tab) (o:Oper) (S:St):OpR :=
 match o.op with
 | .move x=>okV (S.ev x)
 | .assign x=>okV (S.ev x)
 | .pick c a b=>o4_ c a b S
 | .alloc T=>ke_ τ o.dst T S
 | .box T x=>uI_ o.dst T x S
 | .build T ps=>kd_ τ T ps S
 | .buildSlice T n ps=>cs_ τ o.dst T n ps S
 | .load T a=>o5_ τ T a S
 | .store T a x=>j8_ τ T a x S
 | .nilCheck x=>uE_ x S
 | .binOp op T x y _=>orE (uJ_ op x y S) (uH_ τ op T x y S)
 | .unOp op _ x=>BT_ op x S
 | .convert s d x=>o7_ τ s d x S
 | .makeInterface T x=>kb_ τ T x S
 | .makeFunc f a b=>o6_ f a b S
 | .slice T x l h m=>j9_ τ T x l h m S
 | .fieldAddr T x f=>cR_ τ T x f S
 | .field T x f=>kc_ τ T x f S
 | .indexAddr T x i=>uG_ τ T x i S
 | .index T x i=>ka_ τ T x i S
 | .extract t i=>eT_ t i S
 | .typeAssert x _ T b=>g0_ τ x T b S
 | .call ⟨.builtin .len,⟨[x]⟩,⟨[T]⟩⟩=>uF_ τ T x S
 | .call ⟨.builtin .append,⟨[x,y]⟩,⟨[T,T']⟩⟩=>if T=T' then g1_ τ o.dst T x y S else eU_ τ o.dst T T' x y S
 | .call ⟨.builtin .max,⟨[x,y]⟩,_⟩=>zt_ true x y S
 | .call ⟨.builtin .min,⟨[x,y]⟩,_⟩=>zt_ false x y S
 | _=>none
theorem fm_ {P:Program} {τ:Tab} (hτ:aq_ P τ) (o:Oper):aS_ P o (opA τ o):=by
 intro ds pn S side e fp h
 unfold opA at h
 split at h
 all_goals try (rename_i ho)
 ·exact nd_ ho ds pn S side e fp h
 ·exact jO_ ho ds pn S side e fp h
 ·exact nc_ ho ds pn S side e fp h
 ·exact li_ hτ ho ds pn S side e fp h
 ·exact qc_ ho ds pn S side e fp h
 ·exact lh_ hτ ho ds pn S side e fp h
 ·exact fn_ hτ ho ds pn S side e fp h
 ·exact ne_ hτ ho ds pn S side e fp h
 ·exact lb_ hτ ho ds pn S side e fp h
 ·exact p8_ ho ds pn S side e fp h
 ·exact p7_ (qd_ ho) (qb_ hτ ho) ds pn S side e fp h
 ·exact rH_ ho ds pn S side e fp h
 ·exact ng_ hτ ho ds pn S side e fp h
 ·exact lf_ hτ ho ds pn S side e fp h
 ·exact nf_ ho ds pn S side e fp h
 ·exact lc_ hτ ho ds pn S side e fp h
 ·exact gA_ hτ ho ds pn S side e fp h
 ·exact lg_ hτ ho ds pn S side e fp h
 ·exact qa_ hτ ho ds pn S side e fp h
 ·exact le_ hτ ho ds pn S side e fp h
 ·exact iJ_ ho ds pn S side e fp h
 ·exact jP_ hτ ho ds pn S side e fp h
 ·exact p9_ hτ ho ds pn S side e fp h
 ·split at h
  ·rename_i hT;subst hT;exact serves_append hτ ho ds pn S side e fp h
  ·exact iK_ hτ ho ds pn S side e fp h
 ·exact ld_ true ho ds pn S side e fp h
 ·exact ld_ false ho ds pn S side e fp h
 ·cases h
/-! ### conditions of a region, by reckoning -/
abbrev Kp {α:Sort _} (_:α):Type:=St
abbrev Kp2 {α:Sort _} {β:Sort _} (_:α) (_:β):Type:=St
abbrev Ka2 {α:Sort _} {β:Sort _} (γ:Type _) (_:α) (_:β):Type _:=γ
def bJ_ (S:St):Bxs→Prop
 | []=>True
 | (k,_)::r=>S.has k=false∧bJ_ S r
theorem bL_ {S:St}:∀ (l:Bxs),bJ_ S l↔∀ p∈l,S.has p.1=false
 | []=>by simp[bJ_]
 | (k,b)::r=>by simp[bJ_,bL_ r]
def vc1 (dst:Option Tmp) (rest:St→List TI→Prop) (other:Prop) (S:Kp2 rest other) (acc:Ka2 (List TI) rest other) (r:Ka2 OpR rest other):Prop :=
 match r with
 | some (side,e,fp)=>side∧bJ_ S e.add∧rest (S.app dst e) (⟨e,fp⟩::acc)
 | none=>other
def vcG (dst:Option Tmp) (rest:St→List TI→Prop) (other:Prop) (g:Bool) (S:Kp2 rest other) (acc:Ka2 (List TI) rest other) (r:Ka2 OpR rest other):Prop :=
 match r with
 | some (side,⟨v,[],[],[]⟩,fp)=>(g=true→side)∧rest (S.put dst (.when g v)) (⟨⟨.when g v,[],[],[]⟩,fp⟩::acc)
 | _=>other
def vcStop (P:Program) (ds:Dn) (pn:Pn) (o:Oper) (rest:St→List TI→Prop) (S:Kp2 (P,ds,o) (rest,pn)) (acc:List TI):Prop :=
 ∃ e fp,LCore P ds pn o S e fp∧bJ_ S e.add∧rest (S.app o.dst e) (⟨e,fp⟩::acc)
def vcStopG (P:Program) (ds:Dn) (pn:Pn) (o:Oper) (rest:St→List TI→Prop) (g:Bool) (S:Kp2 (P,ds,o) (rest,pn)) (acc:List TI):Prop :=
 ∃ v fp,(g=true→LCore P ds pn o (S.under g) ⟨v,[],[],[]⟩ fp)∧rest (S.put o.dst (.when g v)) (⟨⟨.when g v,[],[],[]⟩,fp⟩::acc)
def vcB (f:Bool→Prop) (r:Ka2 (Option Bool) f f):Prop :=
 match r with
 | some g=>f g
 | none=>False
def gL:List (Option Tmp)→Nat→Option Tmp
 | [],_=>none
 | x::_,0=>x
 | _::l,n+1=>gL l n
theorem zL_:∀ (l:List (Option Tmp)) (j:Nat),gL l j=(l[j]?).bind id
 | [],j=>by simp[gL]
 | x::l,0=>by simp[gL]
 | x::l,n+1=>by rw[gL,zL_ l n];simp
def vcOps (P:Program) (ds:Dn) (pn:Pn) (τ:Tab) (G:List (Option Tmp)) (K:List TI→St→Prop):(os:List Oper)→(S:Kp2 (P,ds,pn,os) (τ,G,K))→(acc:List TI)→Prop
 | [],S,acc=>K acc.reverse S
 | o::os,S,acc =>
  match o.guard with
  | none=>vc1 o.dst (fun S' acc'=>vcOps P ds pn τ G K os S' acc') (vcStop P ds pn o (fun S' acc'=>vcOps P ds pn τ G K os S' acc') S acc) S acc (opA τ o S)
  | some (j,want)=>vcB (fun g =>
    vcG o.dst (fun S' acc'=>vcOps P ds pn τ G K os S' acc') (vcStopG P ds pn o (fun S' acc'=>vcOps P ds pn τ G K os S' acc') g S acc) g S acc (opA τ o (S.under g)))
    ((gL G j).bind fun t=>kt_ want (S.at t))
theorem vcOps.run {P:Program} {ds:Dn} {pn:Pn} {τ:Tab} (hτ:aq_ P τ) {G:List (Option Tmp)} {K:List TI→St→Prop}:∀ (os:List Oper) (S:St) (acc:List TI),vcOps P ds pn τ G K os S acc→RunD P ds pn G os S acc K
 | [],S,acc,h=>h
 | o::os,S,acc,h=>by
  unfold vcOps at h
  cases hg:o.guard with
  | none =>
   rw[hg] at h
   simp only at h
   cases hr:opA τ o S with
   | none =>
    rw[hr] at h
    obtain⟨e,fp,hl,hf,hrest⟩:=h
    exact⟨e,fp,.of_core hg hl,(bL_ _).1 hf,vcOps.run hτ os _ _ hrest⟩
   | some r =>
    obtain⟨side,e,fp⟩:=r
    rw[hr] at h
    obtain⟨hs,hf,hrest⟩:=h
    exact⟨e,fp,.of_core hg (fm_ hτ o ds pn S side e fp hr hs),(bL_ _).1 hf,vcOps.run hτ os _ _ hrest⟩
  | some q =>
   obtain⟨j,want⟩:=q
   rw[hg] at h
   simp only[zL_] at h
   cases hj:(G[j]?).bind id with
   | none=>rw[hj] at h;exact h.elim
   | some t =>
    rw[hj,Option.bind_some] at h
    cases hb:kt_ want (S.at t) with
    | none=>rw[hb] at h;exact h.elim
    | some g =>
     rw[hb] at h
     simp only[vcB] at h
     have other:(∃ v fp,(g=true→LCore P ds pn o (S.under g) ⟨v,[],[],[]⟩ fp)∧vcOps P ds pn τ G K os (S.put o.dst (.when g v)) (⟨⟨.when g v,[],[],[]⟩,fp⟩::acc))→RunD P ds pn G (o::os) S acc K:=by
      rintro⟨v,fp,hl,hrest⟩
      exact⟨⟨.when g v,[],[],[]⟩,fp,.of_guard hg hj hb hl,by simp,vcOps.run hτ os _ _ hrest⟩
     unfold vcG at h
     split at h
     ·rename_i side v fp hr
      exact other ⟨v,fp,fun hgt=>fm_ hτ o ds pn (S.under g) side _ fp hr (h.1 hgt),h.2⟩
     ·exact other h
/-! ### code -/
def q7_ (P:Program) (ds:Dn) (pn:Pn) (w0:World) (I0 F:Nat→Prop) (Q:Exit→St→Prop):Exit→Act→World→Prop
 | .panic ch,a,w=>pn.ok ch∧∃ bx I β,PRel ds w0 I0 F pn bx I β a w
 | .outgrown,_,_=>False
 | e,a,w=>∃ S I β,Q e S∧Rel ds w0 I0 F S I β a w
def WP (P:Program) (ds:Dn) (pn:Pn) (c:Code) (Q:Exit→St→Prop) (S:Kp2 (P,ds,pn) (c,Q)):Prop :=
 ∀ w0 I0 F I β a w,Rel ds w0 I0 F S I β a w→c.wpIn (fO ds.ro) 1 P (q7_ P ds pn w0 I0 F Q) a w
section
variable {P:Program} {ds:Dn} {pn:Pn} {Q:Exit→St→Prop} {S:St}
theorem WP.skip (h:Q .normal S):WP P ds pn .skip Q S:=fun _ _ _ I β a w hr=>wpIn_skip (Q:=q7_ P ds pn _ _ _ Q) ⟨S,I,β,h,hr⟩
theorem WP.exit {id:Nat} (h:Q (.exit id) S):WP P ds pn (.exit id) Q S:=fun _ _ _ I β a w hr=>wpIn_exit (Q:=q7_ P ds pn _ _ _ Q) ⟨S,I,β,h,hr⟩
theorem WP.ret (h:Q .ret S):WP P ds pn .ret Q S:=fun _ _ _ I β a w hr=>wpIn_ret (Q:=q7_ P ds pn _ _ _ Q) ⟨S,I,β,h,hr⟩
theorem WP.mono {c:Code} {Q':Exit→St→Prop} (h:WP P ds pn c Q S) (hq:∀ e S,Q e S→Q' e S):WP P ds pn c Q' S:=fun w0 I0 F I β a w hr =>
 wpIn_mono (h w0 I0 F I β a w hr) fun e a w hh=>by
  cases e<;>first|exact hh|(obtain⟨S,I,β,h1,h2⟩:=hh;exact⟨S,I,β,hq _ _ h1,h2⟩)
def BN_ (P:Program) (ds:Dn) (pn:Pn) (y:Code) (Q:Exit→St→Prop) (e:Exit) (S:Kp2 (P,ds,pn) (y,Q)):Prop :=
 match e with
 | .normal=>WP P ds pn y Q S
 | e=>Q e S
theorem WP.seq {x y:Code} (h:WP P ds pn x (BN_ P ds pn y Q) S):WP P ds pn (.seq x y) Q S:=fun w0 I0 F I β a w hr =>
 wpIn_seq (wpIn_mono (h w0 I0 F I β a w hr) fun e a w hh=>by
  cases e<;>first|exact hh|(obtain⟨S,I,β,h1,h2⟩:=hh;first|exact h1 w0 I0 F I β a w h2|exact⟨S,I,β,h1,h2⟩))
theorem WP.cond {c:Operand} {x y:Code} {b:Bool} (hc:S.ev c=.d (.v (.bool b))) (ht:b=true→WP P ds pn x Q S) (hf:b=false→WP P ds pn y Q S):WP P ds pn (.cond c x y) Q S:=fun w0 I0 F I β a w hr=>by
 have hv:=hr.ev c
 rw[hc,DenA_v] at hv
 exact wpIn_cond_split hv (fun e=>ht e w0 I0 F I β a w hr) (fun e=>hf e w0 I0 F I β a w hr)
def B9_ (id:Nat) (Q:Exit→St→Prop) (e:Exit) (S:Kp Q):Prop :=
 match e with
 | .exit id'=>if id'=id then Q .normal S else Q (.exit id') S
 | e=>Q e S
theorem WP.block {id:Nat} {c:Code} (h:WP P ds pn c (B9_ id Q) S):WP P ds pn (.block id c) Q S:=fun w0 I0 F I β a w hr =>
 wpIn_block (wpIn_mono (h w0 I0 F I β a w hr) fun e a w hh=>by
  cases e with
  | exit id' =>
   obtain⟨S,I,β,h1,h2⟩:=hh
   simp only[B9_] at h1
   simp only[Exit.inBlock]
   split at h1
   ·rename_i e;rw[if_pos e];exact⟨S,I,β,h1,h2⟩
   ·rename_i e;rw[if_neg e];exact⟨S,I,β,h1,h2⟩
  | _=>exact hh)
theorem sB_ (p:Nat→Prop) (h:∃ n,p n):∃ n,p n∧∀ m,p m→n≤m:=by
 obtain⟨n,hn⟩:=h
 induction n using Nat.strongRecOn with
 | _ n ih =>
  by_cases hx:∃ m,m<n∧p m
  ·obtain⟨m,hm,hp⟩:=hx;exact ih m hm hp
  ·exact⟨n,hn,fun m hm=>by rcases Nat.lt_or_ge m n with h|h;exact absurd ⟨m,h,hm⟩ hx;exact h⟩
def Db_ (Inv:Nat→St→Prop) (n:Nat) (Q:Exit→St→Prop) (e:Exit) (S:Kp2 Inv Q):Prop :=
 match e with
 | .normal=>∃ m,m<n∧Inv m S
 | e=>Q e S
theorem WP.loop {c:Code} (Inv:Nat→St→Prop) (n:Nat) (h0:Inv n S) (round:∀ n S,Inv n S→WP P ds pn c (Db_ Inv n Q) S):WP P ds pn (.loop c) Q S:=fun w0 I0 F I β a w hr=>by
 let p:Act→World→Nat→Prop:=fun a w n=>∃ S I β,Inv n S∧Rel ds w0 I0 F S I β a w
 have hp:∀ a w,(∃ n,p a w n)→∃ n,p a w n∧∀ m,p a w m→n≤m:=fun a w h=>sB_ _ h
 have key:∃ μ:Act→World→Nat,∀ a w,(∃ n,p a w n)→p a w (μ a w)∧∀ m,p a w m→μ a w≤m:=by
  refine⟨fun a w=>Classical.epsilon fun n=>p a w n∧∀ m,p a w m→n≤m,fun a w h=>?_⟩
  exact Classical.epsilon_spec (hp a w h)
 obtain⟨μ,hμ⟩:=key
 refine wpIn_loop (fun a w=>∃ n,p a w n) μ ⟨n,S,I,β,h0,hr⟩ fun a w hI=>?_
 obtain⟨⟨S,I,β,hi,hr⟩,hmin⟩:=hμ a w hI
 refine wpIn_mono (round _ S hi w0 I0 F I β a w hr) fun e a' w' hh=>?_
 cases e with
 | normal =>
  obtain⟨S',I',β',⟨m,hm,hinv⟩,hr'⟩:=hh
  have hp':p a' w' m:=⟨S',I',β',hinv,hr'⟩
  exact⟨⟨m,hp'⟩,Nat.lt_of_le_of_lt ((hμ a' w' ⟨m,hp'⟩).2 m hp') hm⟩
 | _=>exact hh
def loopW (W:St→St→Prop) (Inv:Nat→St→Prop) (n:Nat) (Q:Exit→St→Prop) (e:Exit) (S:Kp2 Inv Q):Prop :=
 match e with
 | .normal=>∃ S',W S S'∧∃ m,m<n∧Inv m S'
 | e=>Q e S
theorem WP.region {τ:Tab} (hτ:aq_ P τ) {id:Nat} {l:List Oper} (h:vcOps P ds pn τ (l.map (·.dst)) (fun _ S'=>Q .normal S') l S []):WP P ds pn (.region id l.toArray false) Q S:=fun w0 I0 F I β a w hr =>
 wpIn_region_list (fQ_ (ops:=l.toArray) (K:=fun _ S'=>Q .normal S') (fun ch a w hok hp=>⟨hok,hp⟩) l S [] I β a w (by simpa using vcOps.run hτ l S [] h) hr
  fun _ S' I' β' a' w' hq hr'=>⟨S',I',β',hq,hr'⟩)
theorem qR_ {tis:List TI} (h:bJ_ S (tis.flatMap fun t=>t.e.add)):∀ t∈tis,∀ p∈t.e.add,S.has p.1=false:=fun t ht p hp =>
 (bL_ _).1 h p (List.mem_flatMap.2 ⟨t,ht,hp⟩)
theorem nV_ {τ:Tab} (hτ:aq_ P τ) (hm:P.follows .mixedOrders=true) {id:Nat} {l:List Oper} (h:vcOps P ds pn τ (l.map (·.dst)) (fun tis S'=>bJ_ S (tis.flatMap fun t=>t.e.add)∧fJ_ (pn.zs.map (·.1)) (l.map (·.dst)) l (tis.map TI.ts)=true∧Q .normal S') l S []) :
  WP P ds pn (.region id l.toArray true) Q S:=fun w0 I0 F I β a w hr=>by
 obtain⟨ts,S',hp,hfr,hok,hq⟩:=gu_ l S [] (vcOps.run hτ l S [] h)
 simp only[List.reverse_nil,List.nil_append] at hfr hok
 refine wpIn_region_any hm ?_
 have hnone:mix (fun j=>(Array.replicate l.toArray.size false).getD j false) 0 l ts S=S:=by
  have:∀ j,(Array.replicate l.toArray.size false).getD j false=false:=fun j=>by
   by_cases hj:j<l.length<;>simp[Array.getD,hj]
  have gen:∀ (os:List Oper) (ts:List TI) (k:Nat) (S:St),mix (fun j=>(Array.replicate l.toArray.size false).getD j false) k os ts S=S:=by
   intro os
   induction os with
   | nil=>intro ts k S;rfl
   | cons o os ih =>
    intro ts k S
    cases ts with
    | nil=>rfl
    | cons t ts =>
     simp only[mix]
     rw[if_neg (by rw[this];exact Bool.false_ne_true)]
     exact ih ts (k+1) S
  exact gen _ _ _ _
 exact vm_ (ops:=l.toArray) (S:=S) (S':=S') (ts:=ts) (fun ch a w hok hp=>⟨hok,hp⟩) (by simpa using hp) (by simpa using s7_ hok) (qR_ hfr)
  (fun I' β' a' w' hr'=>⟨S',I',β',hq,hr'⟩) _ _ I β a _ (by simp) (by simp) (fun j o _ hj=>by
   by_cases h:j<l.length<;>simp[Array.getD,h] at hj) (by rw[hnone];exact hr.drew)
end
/-! ### what a function does -/
def Fp (bx:Bxs) (β:Nat→Value) (n:Nat):Prop:=∃ k b,getB bx k=some b∧Blk (β k) n
def Fun (P:Program) (f:FuncId) (args:List AV) (bi:Bxs) (res:AV) (bo:Bxs) (ok:List PanicEntry→Prop):Prop :=
 ∀ w I β vs,Mem w I (Fp bi β) bi I β w→DenAs w I β args vs→Calls P f vs.toArray w fun
  | .returned v,w'=>∃ I' β',Mem w I (Fp bi β) bo I' β' w'∧DenA w' I' β' res v∧∀ k,1000≤k→β' k=β k
  | .panicked ch,w'=>ok ch∧∃ I' β',Mem w I (Fp bi β) [] I' β' w'
  | .outgrown,_=>False
end Go.Xe
