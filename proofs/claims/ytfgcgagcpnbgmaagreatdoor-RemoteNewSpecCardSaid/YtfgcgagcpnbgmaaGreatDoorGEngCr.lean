/-
  Joined texts.
-/
import Derived.Test.YtfgcgagcpnbgmaaGreatDoorGF
import Derived.Test.YtfgcgagcpnbgmaaGreatDoorGEngFz
import Derived.Lib.AppendZerosOnto
import Derived.Lib.Overlaps
import Derived.Test.YtfgcgagcpnbgmaaGreatDoorG8
import Derived.Laws.MakeOwn
set_option linter.all false
namespace Go.Xe
open Go.RowKit
variable [Glob]
theorem fQ_ {α:Type} {resX:α→AV} {boX:α→Bxs} (x:α) {P:Program} {τ:Tab} (hτ:ay_ P τ) {fn:Func} {res:AV} {bo:Bxs} {w:World} {I F:Nat→Prop} {β:Nat→Value} {a':Act} {dn:Dn}:∀ (df ks:List Nat) (S':St) (I':Nat→Prop) (β':Nat→Value) (w':World),S'.df=[]→dn.β0=β →
  Rel dn w I F S' I' β' a' w'→d3_ S'.bx bo df ks→r6_ τ fn.results.toList res bo S'→res=resX x→bo=boX x →
  LeavesInM Fence.wide 1 P fn a'.tmps (fun
     | .returned v,w'=>∃ x,∃ I' β',Mem w I F (boX x) I' β' w'∧DenA w' I' β' (resX x) v∧∀ k,1000≤k→β' k=β k
     | .panicked ch,w'=>False
     | .outgrown,_=>False) (df.map ka_) .returning w'
 | [],[],S',I',β',w',hdf,hβ,hr,_,⟨side,l,hl,hs,hle,hbo⟩,he1,he2=>by
  subst he1;subst he2
  obtain⟨us,hus,hdu⟩:=dW_ hτ hr _ hl hs
  exact⟨_,cr_ fn a'.tmps P w' us hus,x,I',β',hr.mem.sub hbo,hle _ _ _ _ hdu.one,fun k hk=>by rw[← hβ];exact hr.fx k hk⟩
 | D::df,k::ks,S',I',β',w',hdf,hβ,hr,⟨hk,hkb,hkn,hm⟩,⟨side,l,hl,hs,hle,hbo⟩,he1,he2=>by
  obtain⟨hy,hD⟩:=hr.mem.bxs k _ hk
  have hDlt:D<w'.heap.size:=(Array.getElem?_eq_some_iff.1 hD).1
  refine⟨fun e=>(by cases e),.inl ⟨D,w'.putObj D (.deferred none),rfl,run_takeDeferred hD,?_⟩⟩
  have hblk:blk (β' k)=some D:=by rw[hy];rfl
  have hm2:Mem w I F (delB S'.bx k) I' β' (w'.putObj D (.deferred none)):=by
   refine hr.mem.world (r:=some D) ⟨grownBy_putObj' w' D _,Nat.le_refl _⟩ (fun n e=>by cases e;exact hr.mem.sep k _ D hk (.inl hblk)) fun j b hj=>?_
   rw[getB_del] at hj
   split at hj
   ·cases hj
   ·rename_i hne
    refine⟨hj,.inr fun n e hn=>hne ?_⟩
    cases e
    exact hr.mem.inj k j _ b D hk hj (.inl hblk) hn
  have hkp:Kept w' I' (w'.putObj D (.deferred none)) I':=⟨fun _ h=>h,fun n hn=>World.putObj_heap_other fun e=>(hr.mem.sep k _ D hk (.inl hblk)).1 (e▸hn)⟩
  have hr2:Rel dn w I F ⟨S'.sl,delB S'.bx k,[]⟩ I' β' a' (w'.putObj D (.deferred none)):=⟨hm2,DenAs.mono hkp _ _ (fun _ _=>rfl) hr.sl,by have:=hr.dn;rw[hdf] at this;exact this,hr.fx⟩
  refine fQ_ x hτ df ks ⟨S'.sl,delB S'.bx k,[]⟩ I' β' _ rfl hβ hr2 (eZ_ hkn hm) ⟨side,l,(hS_ hk _).trans hl,hs,hle,fun j b hj=>?_⟩ he1 he2
  show getB (delB S'.bx k) j=_
  rw[getB_del]
  split
  ·rename_i e;subst e;rw[hkb] at hj;cases hj
  ·exact hbo j b hj
 | [],_::_,_,_,_,_,_,_,_,h,_,_,_=>h.elim
 | _::_,[],_,_,_,_,_,_,_,h,_,_,_=>h.elim
def finXR (τ:Tab) (rs:List ResultVar) {α:Type} (res:α→AV) (bo:α→Bxs) (e:Exit) (S:Kp2 (τ,rs) (res,bo)):Prop:=∃ x,finQR τ rs (res x) (bo x) e S
theorem Ae_ {P:Program} {τ:Tab} (hτ:ay_ P τ) {f:FuncId} {fn:Func} {c:Code} (hf:P.funcs[f]? = some fn) (hb:fn.body=some c) {args:List AV} {bi:Bxs} {α:Type} {res:α→AV} {bo:α→Bxs}
  (h:∀ β0,WP P ⟨[],β0,none,true⟩ an_ c (finXR τ fn.results.toList res bo) (dU_ fn.ntmps args bi)):FunX P f args bi res bo:=by
 intro w I β vs hm hd
 refine callsIn_wide (n:=1).1 (callsIn_of_wp_marks hf hb trivial (wpIn_mono (h β w I (Fp bi β) I β _ w ⟨hm,?_,⟨rfl,fun h=>by cases h⟩,fun _ _=>rfl⟩) fun e a' w' hh=>?_))
 ·simp only[dU_,Array.toList_append,Array.toList_replicate]
  rw[hd.length]
  have:=cu_ (w:=w) (I:=I) (β:=β) (List.replicate (fn.ntmps-vs.length) undef)
  simp only[List.length_replicate] at this
  exact hd.append (by simpa using this)
 ·have fin:(∃ S I' β',(∃ x,∃ S',Wk S S'∧r6_ τ fn.results.toList (res x) (bo x) S'∧∃ ks,d3_ S'.bx (bo x) S'.df ks)∧Rel ⟨[],β,none,true⟩ w I (Fp bi β) S I' β' a' w') →
    LeavesInM Fence.wide 1 P fn a'.tmps (fun
     | .returned v,w'=>∃ x,∃ I' β',Mem w I (Fp bi β) (bo x) I' β' w'∧DenA w' I' β' (res x) v∧∀ k,1000≤k→β' k=β k
     | .panicked ch,w'=>False
     | .outgrown,_=>False) a'.defers .returning w':=by
   rintro⟨S,I1,β1,⟨x,S',hw,⟨side,l,hl,hs,hle,hbo⟩,ks,hks⟩,hr1⟩
   obtain⟨I',β',hr⟩:=hw _ _ _ _ _ _ _ _ hr1
   have hdn:=hr.dn.1
   simp only[List.append_nil] at hdn
   rw[hdn]
   refine fQ_ (resX:=res) (boX:=bo) x hτ S'.df ks ⟨S'.sl,S'.bx,[]⟩ I' β' w' (dn:=⟨a'.defers,β,none,true⟩) rfl rfl ⟨hr.mem,hr.sl,⟨rfl,fun h=>by cases h⟩,hr.fx⟩ hks ⟨side,l,(resA_df _).trans hl,hs,hle,hbo⟩ rfl rfl
  cases e with
  | normal=>obtain⟨S,I',β',⟨x,hq⟩,hrr⟩:=hh;exact fin ⟨S,I',β',⟨x,hq.2⟩,hrr⟩
  | ret=>obtain⟨S,I',β',⟨x,hq⟩,hrr⟩:=hh;exact fin ⟨S,I',β',⟨x,hq.2⟩,hrr⟩
  | panic ch=>exact hh.1.elim
  | exit id=>obtain⟨S,I',β',⟨x,hq⟩,_⟩:=hh;rcases hq.1 with h|h<;>cases h
  | goto l=>obtain⟨S,I',β',⟨x,hq⟩,_⟩:=hh;rcases hq.1 with h|h<;>cases h
  | outgrown=>exact hh.elim
theorem DI_ {τ:Tab} {rs:List ResultVar} {α:Type} {res:α→AV} {bo:α→Bxs} {e:Exit} {S:St} (x:α) (h:finQR τ rs (res x) (bo x) e S):finXR τ rs res bo e S:=⟨x,h⟩
theorem FunX.one {P:Program} {f:FuncId} {args:List AV} {bi:Bxs} {α:Type} {res:α→AV} {bo:α→Bxs} (h:FunX P f args bi res bo) {r:AV} {b:Bxs} (hr:∀ x,res x=r) (hb:∀ x,bo x=b):Fun P f args bi r b fun _=>False:=fun w I β vs hm hd=>by
 refine Calls.mono (h w I β vs hm hd) fun e w' he=>?_
 cases e with
 | returned v =>
  obtain⟨x,I',β',h1,h2,h3⟩:=he
  rw[hb] at h1
  rw[hr] at h2
  exact⟨I',β',h1,h2,h3⟩
 | panicked ch=>exact he.elim
 | outgrown=>exact he
end Go.Xe
namespace Go.Xe
open Go.RowKit
variable [Glob]
def ExP (T:TypeId) (sz g n c:Nat) (xs:List D) (y:Value) (w:World) (I:Nat→Prop):Prop :=
 y=.slice (some ⟨g,0,none⟩) n c∧n≤c∧c≤maxLen∧∃ (cur:Array Value) (us:List Value),w.heap[g]? = some (.cells cur T (0,0))∧cur.size=c*sz∧cur.toList.take us.length=us∧Dens w I xs us∧∀ u∈us,u.oneCell'=true
def Ex (T:TypeId) (sz g n c:Nat) (xs:List D):Box:=.opq (ExP T sz g n c xs)
section
variable {T:TypeId} {sz g n c:Nat} {xs:List D} {w:World} {I:Nat→Prop} {β:Nat→Value} {y:Value}
theorem Ex.out (h:BoxRel w I β y (Ex T sz g n c xs)):ExP T sz g n c xs y w I:=by
 obtain⟨w1,I1,⟨rfl,hn,hc,cur,us,hg,hs,htk,hd,ho⟩,hk,hb⟩:=h
 refine⟨rfl,hn,hc,cur,us,?_,hs,htk,Dens.mono hk _ _ hd,ho⟩
 rw[(hb g (.inl rfl)).2];exact hg
theorem Do_ (h:ExP T sz g n c xs y w I):BoxRel w I β y (Ex T sz g n c xs):=by
 refine⟨w,I,h,.refl w I,fun m hm=>⟨?_,rfl⟩⟩
 obtain⟨rfl,_,_,cur,us,hg,_⟩:=h
 have e:m=g:=Blk.one rfl hm
 subst e
 exact (Array.getElem?_eq_some_iff.1 hg).1
end
def exA (k:Nat) (v:Value):AV→AV
 | .row j=>if j=k then .d (.v v) else .row j
 | x=>x
theorem Dens.take' {w:World} {I:Nat→Prop}:∀ {cs:List D} {vs:List Value} (_:Dens w I cs vs) (n:Nat),Dens w I (cs.take n) (vs.take n):=fun h n=>by
 have:=(DenAs.of_dens (β:=fun _=>undef) h).take n
 rw[← List.map_take] at this
 exact this.to_dens
theorem Dens.drop' {w:World} {I:Nat→Prop}:∀ {cs:List D} {vs:List Value} (_:Dens w I cs vs) (n:Nat),Dens w I (cs.drop n) (vs.drop n):=fun h n=>by
 have:=(DenAs.of_dens (β:=fun _=>undef) h).drop n
 rw[← List.map_drop] at this
 exact this.to_dens
theorem ux_ {w:World} {I:Nat→Prop} {β:Nat→Value} {k:Nat} {v:Value} (hk:β k=v):∀ {l:List AV} {vs:List Value},DenAs w I β l vs→DenAs w I β (l.map (exA k v)) vs
 | [],_,h=>h
 | x::l,vs,h=>by
  obtain⟨y,ys,rfl,h1,h2⟩:=h
  refine⟨y,ys,rfl,?_,ux_ hk h2⟩
  cases x with
  | row j =>
   show DenA w I β (if j=k then .d (.v v) else .row j) y
   split
   ·rename_i e
    subst e
    rw[DenA] at h1
    rw[DenA_v,h1.1,hk]
   ·exact h1
  | d _=>exact h1
  | ptr _ _=>exact h1
  | agg _=>exact h1
  | tup _=>exact h1
  | fn _ _ _=>exact h1
  | rptr _ _=>exact h1
  | psl _ _ _ _=>exact h1
  | rsl _ _ _=>exact h1
  | iface _ _=>exact h1
  | _         =>exact h1
theorem ya_ {S:St} {k:Nat} {T:TypeId} {sz n:Nat} {xs:List D} (hb:getB S.bx k=some (.row T sz n (xs.map .d))) (hn:0<n) :
  Opn (α:={p:Nat×Nat // n≤p.2∧p.2≤maxLen}) S fun p=>⟨S.sl.map (exA k (.slice (some ⟨p.1.1,0,none⟩) n p.1.2)),setB S.bx k (Ex T sz p.1.1 n p.1.2 xs),S.df⟩:=fun ds w0 I0 F I β a w hr=>by
 obtain⟨vs,⟨hl,how⟩,hd,ho⟩:=hr.mem.bxs k _ hb
 rcases how with⟨_,h0⟩|⟨g,cap,cur,hyv,hz0,hg,hnc,hcm,hcs,htk⟩
 ·omega
 refine⟨⟨(g,cap),hnc,hcm⟩,I,β,?_⟩
 have h1:=hr.say hb (b':=Ex T sz g n cap xs) (Do_ ⟨hyv,hnc,hcm,cur,vs,hg,by simpa using hcs,by rw[hl];exact htk,hd.to_dens,ho⟩)
 exact⟨h1.mem,ux_ hyv hr.sl,hr.dn,hr.fx⟩
theorem va_ {S:St} (t k j m:Nat) {T:TypeId} {sz g n c:Nat} {xs:List D} (hb:getB S.bx k=some (Ex T sz g n c xs)) (hm:m≤c) (hx:xs.length=m*sz)
  (ht:S.sl[t]? = some (.d (.v (.slice (some ⟨g,0,none⟩) m c)))) (hj:S.has j=false):Wk S ⟨S.sl.set t (.row j),setB (delB S.bx k) j (.row T sz m (xs.map .d)),S.df⟩:=fun ds w0 I0 F I β a w hr=>by
 obtain⟨hs,hb2⟩:=aK_ hj
 have hlt:=ck_ hj
 obtain⟨e,hnc,hcm,cur,us,hg,hcs,htk,hd,ho⟩:=Ex.out (hr.mem.bxs k _ hb)
 have hbk:∀ q,Blk (.slice (some ⟨g,0,none⟩) m c) q→q=g:=fun q hq=>Blk.one rfl hq
 have hkg:Blk (β k) g:=by rw[e];exact .inl rfl
 have hul:us.length=m*sz:=by rw[← hd.length];exact hx
 have hm2:Mem w0 I0 F (setB (delB S.bx k) j (.row T sz m (xs.map .d))) I (upd β j (.slice (some ⟨g,0,none⟩) m c)) w:=by
  refine (hr.mem.del k).add (fR_ hb2) ⟨us,⟨hul,.inr ⟨g,c,cur,rfl,Nat.zero_le _,hg,hm,hcm,by simpa using hcs,by rw[← hul];exact htk⟩⟩,DenAs.of_dens hd,ho⟩ fun q hq=>?_
  have hq:=hbk q hq
  subst hq
  obtain⟨h1,h2⟩:=hr.mem.sep k _ q hb hkg
  refine⟨h1,h2,fun i b hi hiq=>?_⟩
  rw[getB_del] at hi
  split at hi
  ·cases hi
  ·rename_i hne
   exact hne (hr.mem.inj k i _ b q hb hi hkg hiq)
 refine⟨I,upd β j (.slice (some ⟨g,0,none⟩) m c),hm2,?_,hr.dn,fun i hi=>by rw[upd_other _ _ (by omega)];exact hr.fx i hi⟩
 have h1:DenAs w I (upd β j (.slice (some ⟨g,0,none⟩) m c)) S.sl a.tmps.toList:=DenAs.mono (Kept.refl w I) _ _ (fun i hi=>upd_other _ _ fun e=>by subst e;rw[hs] at hi;cases hi) hr.sl
 obtain⟨y,hy,hd⟩:=hr.sl.get ht
 rw[DenA_v] at hd
 subst hd
 have h2:=DenAs.set (x:=.row j) (y:=.slice (some ⟨g,0,none⟩) m c) (w:=w) (I:=I) (β:=upd β j (.slice (some ⟨g,0,none⟩) m c)) (by rw[DenA,upd_same];exact⟨rfl,.inl ⟨_,_,_,rfl⟩⟩) h1 t
 rwa[show a.tmps.toList.set t (.slice (some ⟨g,0,none⟩) m c)=a.tmps.toList from by rw[set_self hy]] at h2
theorem lO_ {P:Program} {τ:Tab} (hτ:ay_ P τ) {ds:Dn} {pn:Pn} {o:Oper} {S:St} {T E:TypeId} {x:Operand} {lo hi:Option Operand} {sz1 b1:Nat} {z1:List Value} {te:TE} (ho:o.op=.slice T x lo hi none) (ht:τ T=some ⟨.slice E,sz1,b1,z1⟩) (hte:τ E=some te)
  {g off n c l h:Nat} (hx:S.ev x=.d (.v (.slice (some ⟨g,off,none⟩) n c))) (hl:f5_ S lo 0=some (l:Int)) (hh:f5_ S hi n=some (h:Int)) (h1:l≤h) (h2:h≤c) (h3:l<c) :
  LCore P ds pn o S ⟨.d (.v (.slice (some ⟨g,off+l*te.size,none⟩) (h-l) (c-l))),[],[],[]⟩ []:=by
 intro S1 hs hf
 have ex:=hs.1 x (by simp[ho,Op.operands])
 have eb:∀ (y:Option Operand) d,(∀ z,y=some z→z∈o.op.operands)→f5_ S1 y d=f5_ S y d:=fun y d hy=>by
  unfold f5_;split
  ·rfl
  ·rename_i z;rw[hs.1 z (hy z rfl)]
 have el:=eb lo 0 (fun z hz=>by simp[ho,Op.operands,hz])
 have eh:=eb hi n (fun z hz=>by simp[ho,Op.operands,hz])
 rw[← ex] at hx
 rw[← el] at hl
 rw[← eh] at hh
 obtain⟨d,hu,hk⟩:=(hτ T _ ht).und
 simp only[TK.ok] at hk
 subst hk
 refine Core.value fun w0 I0 F I β a w hr=>⟨_,?_,DenA_v.2 rfl⟩
 have hv:=hr.ev x
 rw[hx,DenA_v] at hv
 have hbd:=bv_ (P:=P) (isS:=true) (n:=n) (cap:=c) (lo:=lo) (hi:=hi) hr hl hh (by omega) (by omega) (by omega)
 simp[execOp,ho,Instr.sliceAt,Instr.slice,hv,run_underlying hu,hbd,(hτ E te hte).size]
 simp[Addr.add_lit]
 omega
theorem c0_ {P:Program} {τ:Tab} (hτ:ay_ P τ) {ds:Dn} {pn:Pn} {o:Oper} {S:St} {acc:List TI} {rest:St→List TI→Prop} {T E:TypeId} {x:Operand} {lo hi:Option Operand} {sz1 b1:Nat} {z1:List Value} {te:TE} (ho:o.op=.slice T x lo hi none) (ht:τ T=some ⟨.slice E,sz1,b1,z1⟩) (hte:τ E=some te)
  {g off n c l h:Nat} (hx:S.ev x=.d (.v (.slice (some ⟨g,off,none⟩) n c))) (hl:f5_ S lo 0=some (l:Int)) (hh:f5_ S hi n=some (h:Int)) (h1:l≤h) (h2:h≤c) (h3:l<c)
  (hr:rest (S.app o.dst ⟨.d (.v (.slice (some ⟨g,off+l*te.size,none⟩) (h-l) (c-l))),[],[],[]⟩) (⟨⟨.d (.v (.slice (some ⟨g,off+l*te.size,none⟩) (h-l) (c-l))),[],[],[]⟩,[]⟩::acc)):vcStop P ds pn o rest S acc :=
 ⟨_,_,lO_ hτ ho ht hte hx hl hh h1 h2 h3,trivial,hr⟩
theorem dw_ {w:World} {g:Nat} {cur:Array Value} {T:TypeId} (hg:w.heap[g]? = some (.cells cur T (0,0))) (j:Nat):w.cell? ⟨g,j,none⟩=cur[j]? := by simp[World.cell?,hg]
def CpSrc (S:St) (y:Operand) (fp:List Nat) (m:Nat) (ys:List D):Prop:=∀ S1,S1.ev y=S.ev y→(∀ k∈fp,getB S1.bx k=getB S.bx k)→∀ ds w0 I0 F I β a w,Rel ds w0 I0 F S1 I β a w →
 ∃ ad sc us,a.eval y=.slice (some ad) m sc∧Dens w I ys us∧(∀ j v,us[j]? = some v→w.cell? (ad.add j)=some v)∧∀ u∈us,u.oneCell'=true
theorem xq_ {S:St} {y:Operand} {k:Nat} {T:TypeId} {sz g off n c m c':Nat} {xs:List D} (hy:S.ev y=.d (.v (.slice (some ⟨g,off,none⟩) m c'))) (hb:getB S.bx k=some (Ex T sz g n c xs)):CpSrc S y [k] m (xs.drop off):=fun S1 ey eb ds w0 I0 F I β a w hr=>by
 obtain⟨e,hnc,hcm,cur,us,hg,hcs,htk,hd,ho⟩:=Ex.out (hr.mem.bxs k _ ((eb k (by simp)).trans hb))
 have hv:=hr.ev y
 rw[ey,hy,DenA_v] at hv
 refine⟨_,_,us.drop off,hv,hd.drop' off,fun j v hj=>?_,fun u hu=>ho u (List.mem_of_mem_drop hu)⟩
 rw[Addr.add_lit,dw_ hg,← Array.getElem?_toList]
 rw[List.getElem?_drop] at hj
 rw[← htk,List.getElem?_take] at hj
 split at hj
 ·exact hj
 ·cases hj
theorem CpSrc.row {S:St} {y:Operand} {k:Nat} {T:TypeId} {sz m:Nat} {ys:List D} (hy:S.ev y=.row k) (hb:getB S.bx k=some (.row T sz m (ys.map .d))) (hm:0<m):CpSrc S y [k] m ys:=fun S1 ey eb ds w0 I0 F I β a w hr=>by
 obtain⟨vs,how,hd,ho⟩:=hr.mem.bxs k _ ((eb k (by simp)).trans hb)
 have hv:=hr.ev y
 rw[ey,hy,DenA] at hv
 rcases how.2 with⟨_,h0⟩|⟨g,cap,cur,hyv,_⟩
 ·omega
 ·exact⟨_,cap,vs,by rw[hv.1];exact hyv,hd.to_dens,how.cells (g:=g) (by rw[hyv];rfl),ho⟩
theorem oj_ {P:Program} {τ:Tab} (hτ:ay_ P τ) {ds:Dn} {pn:Pn} {o:Oper} {S:St} {T T' E T0:TypeId} {x y:Operand} {sz1 b1:Nat} {z1:List Value} {te:TE} (ho:o.op=.call ⟨.builtin .copy,#[x,y],#[T,T']⟩) (ht:τ T=some ⟨.slice E,sz1,b1,z1⟩) (hte:τ E=some te)
  {k g off dl dc n c:Nat} {xs ys:List D} {fp:List Nat} {m:Nat} (hx:S.ev x=.d (.v (.slice (some ⟨g,off,none⟩) dl dc))) (hb:getB S.bx k=some (Ex T0 te.size g n c xs)) (hsrc:CpSrc S y fp m ys) (r:Nat) (hr:Nat.min m dl=r)
  (hys:r*te.size≤ys.length) (hof:off≤xs.length) (hfit:off+r*te.size≤c*te.size) :
  LCore P ds pn o S ⟨.d (.v (.int .i64 r)),[],[(k,Ex T0 te.size g n c (xs.take off++ys.take (r*te.size)++xs.drop (off+r*te.size)))],[]⟩ (k::fp):=by
 intro S1 hs hf
 have ex:=hs.1 x (by simp[ho,Op.operands,Call.operands])
 have ey:=hs.1 y (by simp[ho,Op.operands,Call.operands])
 rw[← ex] at hx
 obtain⟨d,hu,hk⟩:=(hτ T _ ht).und
 simp only[TK.ok] at hk
 subst hk
 have hb1:=(hs.2.2 k (by simp)).trans hb
 refine Core.world fun w0 I0 F I β a w hrel=>?_
 obtain⟨e,hnc,hcm,cur,us,hg,hcs,htk,hd,ho1⟩:=Ex.out (hrel.mem.bxs k _ hb1)
 obtain⟨ad,sc,vs,hyv,hdy,hcy,hoy⟩:=hsrc S1 ey (fun i hi=>hs.2.2 i (by simp[hi])) _ _ _ _ _ _ _ _ hrel
 have hv:=hrel.ev x
 rw[hx,DenA_v] at hv
 have hvl:r*te.size≤vs.length:=by rw[← hdy.length];exact hys
 have hul:(vs.take (r*te.size)).length=r*te.size:=by simp;omega
 have hfc:=run_firstCells_some (P:=P) w te.size r ad m sc (vs.take (r*te.size)) hul (fun j v hj=>hcy j v (by
  rw[List.getElem?_take] at hj
  split at hj
  ·exact hj
  ·cases hj))
 have hone:∀ u∈vs.take (r*te.size),u.oneCell'=true:=fun u hu=>hoy u (List.mem_of_mem_take hu)
 have hst:=run_storeCells_at P g off T0 (vs.take (r*te.size)) 0 cur w hg (by rw[hul];simp only[Nat.add_zero];omega) hone
 simp only[Nat.add_zero] at hst
 generalize hA:vs.take (r*te.size)=A at hst hul hfc hone
 have hkp:∀ q,Kept w I (w.setRow g q) I:=fun q =>
  ⟨fun _ h=>h,fun i hi=>setRow_other w g i _ (fun e'=>(hrel.mem.sep k _ g hb1 (by rw[e];exact .inl rfl)).1 (e'▸hi))⟩
 refine⟨.int .i64 r,w.setRow g (cur.toList.take off++A++cur.toList.drop (off+A.length)).toArray,I,β,?_,?_⟩
 ·obtain⟨C,hC⟩:=aG_ (P:=P) ho
  rw[hC]
  simp[builtin,Builtin.copy_,run_underlying hu,hv,hyv,Builtin.lenOf,(hτ E te hte).size,hr,hfc,hst,goInt]
 ·rw[di_]
  have hxl:=hd.length
  have hcl:us.length≤cur.toList.length:=by rw[← htk];simp[List.length_take];omega
  refine Rel.put (S:=⟨S1.sl,setB S1.bx k _,S1.df⟩) ⟨hrel.mem.turn (b':=Ex T0 te.size g n c _) hb1 (by rw[e];exact a2_ w g _) (Do_ ⟨e,hnc,hcm,_,us.take off++A++us.drop (off+A.length),setRow_heap w g cur _ _ _ hg,?_,?_,?_,?_⟩),DenAs.mono (hkp _) _ _ (fun _ _=>rfl) hrel.sl,hrel.dn,hrel.fx⟩ o.dst (DenA_v.2 rfl)
  ·simp
   omega
  ·have h1:us.take off=cur.toList.take off:=by
    rw[← htk,List.take_take,Nat.min_eq_left (by omega)]
   have h2:us.drop (off+A.length)=(cur.toList.drop (off+A.length)).take (us.length-(off+A.length)):=by
    conv=>lhs;rw[← htk]
    rw[List.drop_take]
   have hl1:(us.take off).length=off:=by simp;omega
   generalize cur.toList.drop (off+A.length)=R at h2 ⊢
   rw[← h1]
   simp only[List.length_append,hl1]
   rw[List.take_append]
   simp only[List.length_append,hl1]
   rw[List.take_of_length_le (by simp only[List.length_append,hl1];omega)]
   congr 1
   rw[h2,List.length_take,Nat.add_sub_cancel_left,List.take_eq_take_iff,Nat.min_assoc,Nat.min_self]
  ·rw[hul]
   refine Dens.mono (hkp _) _ _ ?_
   exact ((hd.take' off).app (hA▸hdy.take' _)).app (hd.drop' _)
  ·intro u hu
   rcases List.mem_append.1 hu with hu|hu
   ·rcases List.mem_append.1 hu with hu|hu
    ·exact ho1 u (List.mem_of_mem_take hu)
    ·exact hone u hu
   ·exact ho1 u (List.mem_of_mem_drop hu)
theorem fp_ {P:Program} {τ:Tab} (hτ:ay_ P τ) {ds:Dn} {pn:Pn} {o:Oper} {S:St} {acc:List TI} {rest:St→List TI→Prop} {T T' E T0:TypeId} {x y:Operand} {sz1 b1:Nat} {z1:List Value} {te:TE} (ho:o.op=.call ⟨.builtin .copy,#[x,y],#[T,T']⟩) (ht:τ T=some ⟨.slice E,sz1,b1,z1⟩) (hte:τ E=some te)
  {k g off dl dc n c:Nat} {xs ys:List D} {fp:List Nat} {m:Nat} (hx:S.ev x=.d (.v (.slice (some ⟨g,off,none⟩) dl dc))) (hb:getB S.bx k=some (Ex T0 te.size g n c xs)) (hsrc:CpSrc S y fp m ys) (r:Nat) (hr:Nat.min m dl=r)
  (hys:r*te.size≤ys.length) (hof:off≤xs.length) (hfit:off+r*te.size≤c*te.size)
  (h:rest (S.app o.dst ⟨.d (.v (.int .i64 r)),[],[(k,Ex T0 te.size g n c (xs.take off++ys.take (r*te.size)++xs.drop (off+r*te.size)))],[]⟩) (⟨⟨.d (.v (.int .i64 r)),[],[(k,Ex T0 te.size g n c (xs.take off++ys.take (r*te.size)++xs.drop (off+r*te.size)))],[]⟩,k::fp⟩::acc)):vcStop P ds pn o rest S acc :=
 ⟨_,_,oj_ hτ ho ht hte hx hb hsrc r hr hys hof hfit,trivial,h⟩
end Go.Xe
namespace Go.Xe
open Go.RowKit
variable [Glob]
theorem fT_ {α:Type} {s:Nat}:∀ (l:List (List α)),(∀ x∈l,x.length=s)→∀ (i:Nat) (x:List α),l[i]? = some x→(l.flatten.drop (i*s)).take s=x
 | [],_,i,x,h=>by simp at h
 | a::l,hl,0,x,h=>by
  simp only[List.getElem?_cons_zero,Option.some.injEq] at h
  subst h
  rw[Nat.zero_mul,List.drop_zero,List.flatten_cons,List.take_left' (hl a (by simp))]
 | a::l,hl,i+1,x,h=>by
  rw[List.getElem?_cons_succ] at h
  rw[List.flatten_cons,show (i+1)*s=a.length+i*s by rw[hl a (by simp),Nat.add_mul];omega,List.drop_append,List.drop_of_length_le (by omega),Nat.add_sub_cancel_left,List.nil_append]
  exact fT_ l (fun y hy=>hl y (by simp[hy])) i x h
section
variable {P:Program} {τ:Tab} {w:World} {I:Nat→Prop}
theorem iN_ (hτ:ay_ P τ) {L:List TypeId} (hL:gOk τ L=true) (hA:L.all (fun t=>iF_ (τ t))=true) {T k e byt q n:Nat} {z:List Value} (ht:τ T=some ⟨.array k e,k*tsz τ e,byt,z⟩) (he:L.contains e=true) (hke:P.keyTypeAt q e=true) {l:List (List D)} (hl:l.length=k)
  (hx:∀ x∈l,OkD τ n e x) {vs:List Value} (hd:Dens w I l.flatten vs):P.keyLits (n+1) T vs=some (by_ l.flatten)∧vs.length=P.cellsOf T:=by
 obtain⟨dsc,hu,hok⟩:=(hτ T _ ht).und
 simp only[TK.ok] at hok
 subst hok
 have hte:∃ te,τ e=some te:=by
  have:=List.all_eq_true.1 hL e (by simpa using he)
  unfold pf_ at this
  cases hte:τ e with
  | none=>rw[hte] at this;cases this
  | some te=>exact⟨te,rfl⟩
 obtain⟨te,hte⟩:=hte
 have hce:=a5_ (hτ e te hte) hte
 have hcT:=a5_ (hτ T _ ht) ht
 have hlx:∀ x∈l,x.length=tsz τ e:=fun x hxl=>iC_ hL n e x he (hx x hxl)
 have hfl:l.flatten.length=k*tsz τ e:=by rw[e5_ l fun i x h=>hlx x (List.mem_of_getElem? h),hl]
 have hvl:vs.length=P.cellsOf T:=by
  rw[hcT,← Dens.length hd,hfl]
  show _=(match τ T with|some e=>e.size|none=>0)
  rw[ht]
 refine⟨?_,hvl⟩
 unfold Program.keyLits
 simp only[hu]
 rw[if_pos hvl,iJ_ (r:=l.map by_) (by simp[hl]) fun i x y hi hy=>?_]
 ·rw[Option.map_some,ds_]
 ·rw[List.getElem?_map] at hy
  obtain⟨c,hc,rfl⟩:=Option.map_eq_some_iff.1 hy
  have hix:x=i:=by
   rw[List.getElem?_range (by
    have:=(List.getElem?_eq_some_iff.1 hc).1
    omega)] at hi
   exact (Option.some.inj hi).symm
  subst hix
  have hdc:=(hd.drop' (x*tsz τ e)).take' (tsz τ e)
  rw[fT_ l hlx x c hc] at hdc
  rw[hce]
  exact e1_ hτ hL hA n e q c _ hke he (hx c (List.mem_of_getElem? hc)) hdc
theorem oi_ (hτ:ay_ P τ) {L:List TypeId} (hL:gOk τ L=true) (hA:L.all (fun t=>iF_ (τ t))=true) {ds:Dn} {pn:Pn} {o:Oper} {S:St} {op:BinOp} {T T':TypeId} {x y:Operand}
  (ho:o.op=.binOp op T x y T') (hop:op=.eql∨op=.neq) {q:Nat} (hm:q+1≤10000) {k e byt:Nat} {z:List Value} (ht:τ T=some ⟨.array k e,k*tsz τ e,byt,z⟩) (hke:P.keyTypeAt q e=true) (he:L.contains e=true) (hgd:P.eqGuardType P.depth T=false)
  {n n':Nat} {cs es:List (List D)} (hx:Leq (S.ev x) (.d (.agg cs.flatten))) (hy:Leq (S.ev y) (.d (.agg es.flatten))) (lc:cs.length=k) (le:es.length=k)
  (oka:∀ c∈cs,OkD τ n e c) (okb:∀ c∈es,OkD τ n' e c) {r:Bool} (hr:r=true↔by_ cs.flatten=by_ es.flatten):LCore P ds pn o S ⟨.d (.v (.bool (eqRes op r))),[],[],[]⟩ []:=by
 intro S1 hs _
 have ex:=hs.1 x (by simp[ho,Op.operands])
 have ey:=hs.1 y (by simp[ho,Op.operands])
 refine Core.value fun w0 I0 F I β A w hrel=>⟨_,?_,DenA_v.2 rfl⟩
 have h1:=hrel.ev x
 have h2:=hrel.ev y
 rw[ex] at h1
 rw[ey] at h2
 have h1:=hx _ _ _ _ h1
 have h2:=hy _ _ _ _ h2
 rw[DenA] at h1 h2
 obtain⟨cs',hc,hda⟩:=h1
 obtain⟨es',hd,hdb⟩:=h2
 obtain⟨dsc,hu,hok⟩:=(hτ T _ ht).und
 simp only[TK.ok] at hok
 subst hok
 have hk:P.keyTypeAt (q+1) T=true:=by rw[Program.keyTypeAt,hu];exact hke
 obtain⟨k1,k2⟩:=iN_ hτ hL hA ht he hke lc oka hda
 obtain⟨k3,k4⟩:=iN_ hτ hL hA ht he hke le okb hdb
 have fm:∀ vs:List Value,vs.length=P.cellsOf T→(Value.agg vs.toArray).formed P T=true:=fun vs hv=>by
  unfold Value.formed
  rw[hu]
  simp[hv]
 have he:=run_equalIn_deep (10000-(q+1)) (q+1) T hk w (n+1) (n'+1) (.agg cs'.toArray) (.agg es'.toArray) _ _ (fm cs' k2) (fm es' k4) (by simpa [Value.cells] using k1) (by simpa [Value.cells] using k3)
 rw[show 10000-(q+1)+(q+1)=10000 by omega] at he
 obtain⟨r',hr1,hr2⟩:=he
 have:r'=r:=by rw[Bool.eq_iff_iff,hr2,hr]
 subst this
 have hr1:(Op.equal T (.agg cs'.toArray) (.agg es'.toArray)).run P w=.ok r' w:=hr1
 rcases hop with rfl|rfl<;>simp[execOp,ho,hc,hd,eqGuard,binOp,hr1,hgd,eqRes]
theorem jT_ (hτ:ay_ P τ) {L:List TypeId} (hL:gOk τ L=true) (hA:L.all (fun t=>iF_ (τ t))=true) {ds:Dn} {pn:Pn} {o:Oper} {S:St} {acc:List TI} {rest:St→List TI→Prop} {op:BinOp} {T T':TypeId} {x y:Operand}
  (ho:o.op=.binOp op T x y T') (hop:op=.eql∨op=.neq) {q:Nat} (hm:q+1≤10000) {k e byt:Nat} {z:List Value} (ht:τ T=some ⟨.array k e,k*tsz τ e,byt,z⟩) (hke:P.keyTypeAt q e=true) (he:L.contains e=true) (hgd:P.eqGuardType P.depth T=false)
  {n n':Nat} {cs es:List (List D)} (hx:Leq (S.ev x) (.d (.agg cs.flatten))) (hy:Leq (S.ev y) (.d (.agg es.flatten))) (lc:cs.length=k) (le:es.length=k)
  (oka:∀ c∈cs,OkD τ n e c) (okb:∀ c∈es,OkD τ n' e c) {r:Bool} (hr:r=true↔by_ cs.flatten=by_ es.flatten) (h:rest (S.put o.dst (.d (.v (.bool (eqRes op r))))) (⟨⟨.d (.v (.bool (eqRes op r))),[],[],[]⟩,[]⟩::acc)):vcStop P ds pn o rest S acc :=
 ⟨_,_,oi_ hτ hL hA ho hop hm ht hke he hgd hx hy lc le oka okb hr,trivial,h⟩
end
end Go.Xe
namespace Go.Xe
open Go.RowKit
variable [Glob]
mutual
def fzc (k:Nat) (ds:List D):AV→AV
 | .row j=>.row j
 | .rptr j off=>.rptr j off
 | .agg cs=>.agg (fS_ k ds cs)
 | .tup cs=>.tup (fS_ k ds cs)
 | .fn f a b=>.fn f (fS_ k ds a) (fS_ k ds b)
 | .iface t x=>.iface t (fzc k ds x)
 | .when b x=>.when b (fzc k ds x)
 | .ptr j off=>if j=k then .d (.ip (ds.drop off)) else .ptr j off
 | .psl j off m c=>if j=k then (if off+m≤ds.length∧m≤c∧c≤maxLen then .d (.sl 1 ((ds.drop off).take m) m false) else .d .any) else .psl j off m c
 | .rsl j off m=>.rsl j off m
 | .d x=>.d x
def fS_ (k:Nat) (ds:List D):List AV→List AV
 | []=>[]
 | x::xs=>fzc k ds x::fS_ k ds xs
end
def op_ (k:Nat) (ds:List D):Box→Box
 | .cells T cs=>.cells T (fS_ k ds cs)
 | .row T s m cs=>.row T s m (fS_ k ds cs)
 | .obj b o=>.obj b o
 | .mp kvs=>.mp kvs
 | .opq p=>.opq p
def de_ (k:Nat) (ds:List D):Bxs→Bxs
 | []=>[]
 | (j,b)::r=>if j=k then de_ k ds r else (j,op_ k ds b)::de_ k ds r
theorem lm_ {k:Nat} {ds:List D}:∀ (bx:Bxs) (j:Nat),getB (de_ k ds bx) j=if j=k then none else (getB bx j).map (op_ k ds)
 | [],j=>by simp[de_,getB]
 | (i,b)::r,j=>by
  simp only[de_]
  split
  ·rename_i h;subst h
   rw[lm_ r j]
   simp only[getB]
   by_cases h:j=i
   ·simp[h]
   ·simp[h,Ne.symm h]
  ·rename_i h
   simp only[getB]
   by_cases h2:i=j
   ·subst h2;simp[h]
   ·simp only[h2,if_false];exact lm_ r j
mutual
theorem ui_ {w:World} {I:Nat→Prop} {β:Nat→Value} {k:Nat} {ds:List D} (hptr:∀ b,β k=.pointer (some ⟨b,0,none⟩)→∀ off,DenAt w I (ds.drop off) b off):∀ (x:AV) (v:Value),DenA w I β x v→DenA w I β (fzc k ds x) v
 | .row j,v,h=>by rw[fzc];exact h
 | .rptr j off,v,h=>by rw[fzc];exact h
 | .agg cs,v,h=>by rw[fzc];obtain⟨vs,e,h⟩:=h;exact⟨vs,e,gv_ hptr cs vs h⟩
 | .tup cs,v,h=>by rw[fzc];obtain⟨vs,e,h⟩:=h;exact⟨vs,e,gv_ hptr cs vs h⟩
 | .fn f a b,v,h=>by rw[fzc];obtain⟨v1,v2,e,h1,h2⟩:=h;exact⟨v1,v2,e,gv_ hptr a v1 h1,gv_ hptr b v2 h2⟩
 | .iface t x,v,h=>by rw[fzc];obtain⟨z,e,h⟩:=h;exact⟨z,e,ui_ hptr x z h⟩
 | .when b x,v,h=>by rw[fzc];exact⟨fun e=>ui_ hptr x v (h.1 e),h.2⟩
 | .ptr j off,v,h=>by
  rw[fzc]
  split
  ·rename_i e;subst e;obtain⟨b,h1,rfl⟩:=h;rw[DenA,Den];exact⟨b,off,rfl,hptr b h1 off⟩
  ·exact h
 | .psl j off m c,v,h=>by
  rw[fzc]
  split
  ·rename_i e;subst e
   split
   ·rename_i hc
    obtain⟨b,h1,rfl⟩:=h
    rw[DenA,Den]
    refine⟨some ⟨b,off,none⟩,c,rfl,hc.2.1,hc.2.2,by simp,by simp;omega,by simp,fun ad had=>?_⟩
    cases had
    exact⟨fun _=>rfl,(hptr b h1 off).take m⟩
   ·exact bL_ _ _ _ _
  ·exact h
 | .rsl j off m,v,h=>by rw[fzc];exact h
 | .d x,v,h=>by rw[fzc];exact h
theorem gv_ {w:World} {I:Nat→Prop} {β:Nat→Value} {k:Nat} {ds:List D} (hptr:∀ b,β k=.pointer (some ⟨b,0,none⟩)→∀ off,DenAt w I (ds.drop off) b off):∀ (l:List AV) (vs:List Value),DenAs w I β l vs→DenAs w I β (fS_ k ds l) vs
 | [],vs,h=>by rw[fS_];exact h
 | x::xs,vs,h=>by rw[fS_];obtain⟨v,vs',e,h1,h2⟩:=h;exact⟨v,vs',e,ui_ hptr x v h1,gv_ hptr xs vs' h2⟩
end
theorem aR_ {S:St} {k:Nat} {T:TypeId} {ds:List D} (hb:getB S.bx k=some (.cells T (ds.map .d))):Wk S ⟨fS_ k ds S.sl,de_ k ds S.bx,S.df⟩:=fun dn w0 I0 F I β a w hr=>by
 obtain⟨g,us,hg0,hgh,hd,ho⟩:=hr.mem.bxs k _ hb
 let I':Nat→Prop:=fun m=>I m∨Blk (β k) m
 have hk:Kept w I w I':=⟨fun _ h=>.inl h,fun _ _=>rfl⟩
 have hcell:DenAt w I' ds g 0:=by
  refine DenAt.of_dens (vs:=us) (.inr (by rw[hg0];exact .inl rfl)) (Dens.mono hk _ _ hd.to_dens) ho fun j v hj=>?_
  rw[Nat.zero_add,dw_ hgh]
  simpa using hj
 have hptr:∀ b,β k=.pointer (some ⟨b,0,none⟩)→∀ off,DenAt w I' (ds.drop off) b off:=fun b e off=>by
  rw[hg0] at e
  cases e
  have:=hcell.drop off
  rwa[Nat.zero_add] at this
 have up:∀ l vs,DenAs w I β l vs→DenAs w I' β (fS_ k ds l) vs:=fun l vs h=>gv_ hptr l vs (DenAs.mono hk _ _ (fun _ _=>rfl) h)
 have hget:∀ j b,getB (de_ k ds S.bx) j=some b→j≠k∧∃ b',getB S.bx j=some b'∧b=op_ k ds b':=fun j b h=>by
  rw[lm_] at h
  split at h
  ·cases h
  ·rename_i hne
   refine⟨hne,?_⟩
   cases hj:getB S.bx j with
   | none=>rw[hj] at h;cases h
   | some b'=>rw[hj] at h;cases h;exact⟨b',rfl,rfl⟩
 refine⟨I',β,⟨fun j b h=>?_,fun j b m h hm=>?_,fun i j b c m h1 h2 hi hj=>?_,fun m hm=>?_,fun m hm=>?_,hr.mem.kept.trans hk,hr.mem.fr,hr.mem.sz,hr.mem.os,hr.mem.tape,hr.mem.out,hr.mem.dr,hr.mem.gl⟩,up _ _ hr.sl,hr.dn,hr.fx⟩
 ·obtain⟨_,b',hj,rfl⟩:=hget j b h
  have:=hr.mem.bxs j b' hj
  cases b' with
  | cells T' cs=>obtain⟨g,vs,e,hg,h1,h2⟩:=this;exact⟨g,vs,e,hg,up _ _ h1,h2⟩
  | row T' s m cs=>obtain⟨vs,h0,h1,h2⟩:=this;exact⟨vs,h0,up _ _ h1,h2⟩
  | obj g o=>exact this
  | mp kvs=>obtain⟨g,es,clock,e,hg,h1,h2,h3⟩:=this;exact⟨g,es,clock,e,hg,h1,Dens.mono hk _ _ h2,h3⟩
  | opq p=>obtain⟨w1,I1,h0,h1,h2⟩:=this;exact⟨w1,I1,h0,h1.trans hk,h2⟩
 ·obtain⟨hne,b',hj,rfl⟩:=hget j b h
  refine⟨?_,(hr.mem.sep j b' m hj hm).2⟩
  rintro (hI|hkm)
  ·exact (hr.mem.sep j b' m hj hm).1 hI
  ·exact hne (hr.mem.inj j k b' _ m hj hb hm hkm)
 ·obtain⟨_,b',h1',_⟩:=hget i b h1
  obtain⟨_,c',h2',_⟩:=hget j c h2
  exact hr.mem.inj i j b' c' m h1' h2' hi hj
 ·rcases hm with hm|hm
  ·exact hr.mem.im m hm
  ·exact (hr.mem.bxs k _ hb).lt hm
 ·rcases hm with hm|hm
  ·exact hr.mem.inew m hm
  ·exact .inr (hr.mem.sep k _ m hb hm).2
theorem lN_ {P:Program} {τ:Tab} (hτ:ay_ P τ) {ds:Dn} {pn:Pn} {o:Oper} {S:St} {T E:TypeId} {x:Operand} {sz1 b1 n:Nat} {z1:List Value} {te:TE} (ho:o.op=.slice T x none none none) (ht:τ T=some ⟨.array n E,sz1,b1,z1⟩) (hte:τ E=some te)
  {cs:List D} (hx:S.ev x=.d (.ip cs)) (hl:n*te.size≤cs.length) (hn:n≤maxLen) :
  LCore P ds pn o S ⟨.d (.sl te.size (cs.take (n*te.size)) n true),[],[],[]⟩ []:=by
 intro S1 hs hf
 have ex:=hs.1 x (by simp[ho,Op.operands])
 rw[← ex] at hx
 obtain⟨d,hu,hk⟩:=(hτ T _ ht).und
 simp only[TK.ok] at hk
 subst hk
 refine Core.value fun w0 I0 F I β a w hr=>?_
 have hv:=hr.ev x
 rw[hx,DenA,Den] at hv
 obtain⟨b,off,e1,hat⟩:=hv
 have hbd:=bv_ (P:=P) (isS:=false) (n:=n) (cap:=n) (lo:=none) (hi:=none) hr (l:=0) (h:=n) rfl rfl (by omega) (by omega) (by omega)
 simp only[Option.map_none] at hbd
 refine⟨.slice (some ⟨b,off,none⟩) n n,?_,?_⟩
 ·simp[execOp,ho,Instr.sliceAt,e1,run_underlying hu,Instr.sureAddr,hbd,(hτ E te hte).size,Addr.add_lit]
 ·rw[DenA,Den]
  refine⟨some ⟨b,off,none⟩,n,rfl,Nat.le_refl _,hn,by simp,by simp;omega,by simp,fun ad had=>?_⟩
  cases had
  exact⟨fun _=>rfl,hat.take _⟩
theorem aw_ {P:Program} {τ:Tab} (hτ:ay_ P τ) {ds:Dn} {pn:Pn} {o:Oper} {S:St} {acc:List TI} {rest:St→List TI→Prop} {T E:TypeId} {x:Operand} {sz1 b1 n:Nat} {z1:List Value} {te:TE} (ho:o.op=.slice T x none none none) (ht:τ T=some ⟨.array n E,sz1,b1,z1⟩) (hte:τ E=some te)
  {cs:List D} (hx:S.ev x=.d (.ip cs)) (hl:n*te.size≤cs.length) (hn:n≤maxLen) {r:D} (hr:D.sl te.size (cs.take (n*te.size)) n true=r)
  (h:rest (S.app o.dst ⟨.d r,[],[],[]⟩) (⟨⟨.d r,[],[],[]⟩,[]⟩::acc)):vcStop P ds pn o rest S acc :=
 by subst hr;exact⟨_,_,lN_ hτ ho ht hte hx hl hn,trivial,h⟩
theorem CpSrc.psl {S:St} {y:Operand} {k off m c:Nat} {T:TypeId} {cs:List D} (hy:S.ev y=.psl k off m c) (hb:getB S.bx k=some (.cells T (cs.map .d))):CpSrc S y [k] m (cs.drop off):=fun S1 ey eb ds w0 I0 F I β a w hr=>by
 obtain⟨g,us,hg0,hgh,hd,ho⟩:=hr.mem.bxs k _ ((eb k (by simp)).trans hb)
 have hv:=hr.ev y
 rw[ey,hy] at hv
 obtain⟨b,e1,e2⟩:=hv
 rw[hg0] at e1
 cases e1
 refine⟨_,_,us.drop off,e2,hd.to_dens.drop' off,fun j v hj=>?_,fun u hu=>ho u (List.mem_of_mem_drop hu)⟩
 rw[Addr.add_lit,dw_ hgh]
 rw[List.getElem?_drop] at hj
 simpa using hj
theorem CpSrc.data {S:St} {y:Operand} {sz m:Nat} {f:Bool} {cs:List D} (hy:S.ev y=.d (.sl sz cs m f)) (hm:0<m):CpSrc S y [] m cs:=fun S1 ey eb ds w0 I0 F I β a w hr=>by
 have hv:=hr.ev y
 rw[ey,hy,DenA,Den] at hv
 obtain⟨ad,cap,e1,hnc,hcm,hfl,hlx,hnil,hat⟩:=hv
 cases ad with
 | none=>have:=(hnil rfl).1;omega
 | some ad =>
  obtain⟨hsp,hat⟩:=hat ad rfl
  obtain⟨b,off,sp⟩:=ad
  have hsp:=hsp hm
  simp only at hsp;subst hsp
  obtain⟨xs,hdx,hox,hcx⟩:=hat.dens
  exact⟨_,_,xs,e1,hdx,fun j v hj=>by rw[Addr.add_lit];exact hcx j v hj,hox⟩
theorem lR_ {P:Program} {τ:Tab} (hτ:ay_ P τ) {ds:Dn} {pn:Pn} {o:Oper} {S:St} {T T' E T0:TypeId} {x y:Operand} {sz1 b1:Nat} {z1:List Value} {te:TE} (ho:o.op=.call ⟨.builtin .copy,#[x,y],#[T,T']⟩) (ht:τ T=some ⟨.slice E,sz1,b1,z1⟩) (hte:τ E=some te)
  {k off dl dc:Nat} {cs:List AV} {ys:List D} {fp:List Nat} {m:Nat} (hx:S.ev x=.psl k off dl dc) (hb:getB S.bx k=some (.cells T0 cs)) (hsrc:CpSrc S y fp m ys) (r:Nat) (hr:Nat.min m dl=r)
  (hys:r*te.size≤ys.length) (hfit:off+r*te.size≤cs.length) :
  LCore P ds pn o S ⟨.d (.v (.int .i64 r)),[],[(k,.cells T0 (cs.take off++(ys.take (r*te.size)).map .d++cs.drop (off+r*te.size)))],[]⟩ (k::fp):=by
 intro S1 hs hf
 have ex:=hs.1 x (by simp[ho,Op.operands,Call.operands])
 have ey:=hs.1 y (by simp[ho,Op.operands,Call.operands])
 rw[← ex] at hx
 obtain⟨d,hu,hk⟩:=(hτ T _ ht).und
 simp only[TK.ok] at hk
 subst hk
 have hb1:=(hs.2.2 k (by simp)).trans hb
 refine Core.world fun w0 I0 F I β a w hrel=>?_
 obtain⟨g,us,e,hg,hd,ho1⟩:=hrel.mem.bxs k _ hb1
 obtain⟨ad,sc,vs,hyv,hdy,hcy,hoy⟩:=hsrc S1 ey (fun i hi=>hs.2.2 i (by simp[hi])) _ _ _ _ _ _ _ _ hrel
 have hv:=hrel.ev x
 rw[hx] at hv
 obtain⟨g',e1,e2⟩:=hv
 rw[e] at e1
 cases e1
 have hvl:r*te.size≤vs.length:=by rw[← hdy.length];exact hys
 have hul:(vs.take (r*te.size)).length=r*te.size:=by simp;omega
 have hcl:cs.length=us.length:=hd.length
 have hfc:=run_firstCells_some (P:=P) w te.size r ad m sc (vs.take (r*te.size)) hul (fun j v hj=>hcy j v (by
  rw[List.getElem?_take] at hj
  split at hj
  ·exact hj
  ·cases hj))
 have hone:∀ u∈vs.take (r*te.size),u.oneCell'=true:=fun u hu=>hoy u (List.mem_of_mem_take hu)
 have hst:=run_storeCells_at P g off T0 (vs.take (r*te.size)) 0 us.toArray w hg (by rw[hul];simp only[Nat.add_zero,List.size_toArray];omega) hone
 simp only[Nat.add_zero] at hst
 have hdA:=hdy.take' (r*te.size)
 generalize hA:vs.take (r*te.size)=A at hst hul hfc hone hdA
 have hkp:∀ q,Kept w I (w.setRow g q) I:=fun q =>
  ⟨fun _ h=>h,fun i hi=>setRow_other w g i _ (fun e'=>(hrel.mem.sep k _ g hb1 (by rw[e];exact .inl rfl)).1 (e'▸hi))⟩
 refine⟨.int .i64 r,w.setRow g (us.take off++A++us.drop (off+A.length)).toArray,I,β,?_,?_⟩
 ·obtain⟨C,hC⟩:=aG_ (P:=P) ho
  rw[hC]
  simp[builtin,Builtin.copy_,run_underlying hu,e2,hyv,Builtin.lenOf,(hτ E te hte).size,hr,hfc,hst,goInt]
 ·rw[di_]
  refine Rel.put (S:=⟨S1.sl,setB S1.bx k _,S1.df⟩) ⟨hrel.mem.turn (b':=.cells T0 _) hb1 (by rw[e];exact a2_ w g _) ⟨g,us.take off++A++us.drop (off+A.length),e,setRow_heap w g us.toArray _ _ _ hg,?_,?_⟩,DenAs.mono (hkp _) _ _ (fun _ _=>rfl) hrel.sl,hrel.dn,hrel.fx⟩ o.dst (DenA_v.2 rfl)
  ·rw[hul]
   refine DenAs.mono (hkp _) _ _ (fun _ _=>rfl) ?_
   exact ((hd.take off).append (.of_dens hdA)).append (hd.drop _)
  ·intro u hu
   rcases List.mem_append.1 hu with hu|hu
   ·rcases List.mem_append.1 hu with hu|hu
    ·exact ho1 u (List.mem_of_mem_take hu)
    ·exact hone u hu
   ·exact ho1 u (List.mem_of_mem_drop hu)
theorem c1_ {P:Program} {τ:Tab} (hτ:ay_ P τ) {ds:Dn} {pn:Pn} {o:Oper} {S:St} {acc:List TI} {rest:St→List TI→Prop} {T T' E T0:TypeId} {x y:Operand} {sz1 b1:Nat} {z1:List Value} {te:TE} (ho:o.op=.call ⟨.builtin .copy,#[x,y],#[T,T']⟩) (ht:τ T=some ⟨.slice E,sz1,b1,z1⟩) (hte:τ E=some te)
  {k off dl dc:Nat} {cs:List AV} {ys:List D} {fp:List Nat} {m:Nat} (hx:S.ev x=.psl k off dl dc) (hb:getB S.bx k=some (.cells T0 cs)) (hsrc:CpSrc S y fp m ys) (r:Nat) (hr:Nat.min m dl=r)
  (hys:r*te.size≤ys.length) (hfit:off+r*te.size≤cs.length) {cs':List AV} (hcs:cs.take off++(ys.take (r*te.size)).map .d++cs.drop (off+r*te.size)=cs')
  (h:rest (S.app o.dst ⟨.d (.v (.int .i64 r)),[],[(k,.cells T0 cs')],[]⟩) (⟨⟨.d (.v (.int .i64 r)),[],[(k,.cells T0 cs')],[]⟩,k::fp⟩::acc)):vcStop P ds pn o rest S acc :=
 by subst hcs;exact⟨_,_,lR_ hτ ho ht hte hx hb hsrc r hr hys hfit,trivial,h⟩
end Go.Xe
namespace Go.Xe
open Go.RowKit
variable [Glob]
theorem sU_:∀ (xs pre cs:List AV),cs.length=xs.length→setL (pre++cs) pre.length xs=pre++xs
 | [],pre,cs,h=>by
  have:cs=[]:=List.length_eq_zero_iff.1 h
  subst this;rfl
 | x::xs,pre,cs,h=>by
  match cs,h with
  | c::cs,h =>
   rw[setL,List.set_append_right _ _ (Nat.le_refl _),Nat.sub_self,List.set_cons_zero]
   have:=sU_ xs (pre++[x]) cs (by simpa using h)
   rw[List.length_append] at this
   simpa using this
theorem setL_whole (cs xs:List AV) (h:cs.length=xs.length):setL cs 0 xs=xs:=sU_ xs [] cs h
theorem xd_ {P:Program} {ds:Dn} {pn:Pn} {Q:Exit→St→Prop} {S:St} {x y:Code} (S':St) (h:WP P ds pn x (toQ S' Q) S) (h2:WP P ds pn y Q S'):WP P ds pn x (Dx_ P ds pn y Q) S :=
 WP.mono h fun e S hq=>by
  cases e with
  | normal=>exact ar_ hq h2
  | _=>exact hq
end Go.Xe
namespace Go.Xe
open Go.RowKit
variable [Glob]
theorem jM_ {P:Program} {τ:Tab} (hτ:ay_ P τ) {ds:Dn} {pn:Pn} {o:Oper} {S:St} {T E:TypeId} {x y:Operand} {sz1 b1:Nat} {z1:List Value} {te:TE} {kl kc:IntKind} (ho:o.op=.makeSlice T x y) (ht:τ T=some ⟨.slice E,sz1,b1,z1⟩) (hte:τ E=some te)
  {k c:Nat} (hx:S.ev x=.d (.v (.int kl 0))) (hy:S.ev y=.d (.v (.int kc c))) (hc:te.bytes*c≤281474976710656) (hm:c≤maxLen) (hk0:S.has k=false) :
  LCore P ds pn o S ⟨.row k,[],[],[(k,.row E te.size 0 [])]⟩ []:=by
 intro S1 hs hf
 have ex:=hs.1 x (by simp[ho,Op.operands])
 have ey:=hs.1 y (by simp[ho,Op.operands])
 rw[← ex] at hx
 rw[← ey] at hy
 have hk0:S1.has k=false:=hf _ (List.mem_singleton.2 rfl)
 obtain⟨d,hu,hk⟩:=(hτ T _ ht).und
 simp only[TK.ok] at hk
 subst hk
 have tk:=hτ E te hte
 obtain⟨i,z,hi,h1,h2,h3,h4,h5,h6⟩:=tk.info
 refine Core.world fun w0 I0 F I β a w hr=>?_
 have vx:=hr.ev x
 have vy:=hr.ev y
 rw[hx,DenA_v] at vx
 rw[hy,DenA_v] at vy
 have hmx:(maxLen:Nat)≤9223372036854775807:=by decide
 have hb:(i.bytes:Int)*(c:Int)≤281474976710656:=by
  have h:((te.bytes*c:Nat):Int)≤281474976710656:=by omega
  rw[h2]
  rwa[Int.natCast_mul] at h
 have hrun:=run_make (P:=P) w T E i z hu hi h3 kl kc 0 c (Int.le_refl _) (by omega) hb (by omega)
 simp only[Int.toNat_natCast,Int.toNat_zero] at hrun
 have hgr:=Gb.alloc w (.cells (madeCells z.cells (c*i.size)) E) none
 have how:(w.alloc (.cells (madeCells z.cells (c*i.size)) E)).ownsRow 0 E te.size (.slice (some ⟨w.heap.size,0,none⟩) 0 c) 0 [] :=
  ⟨by simp,.inr ⟨w.heap.size,c,madeCells z.cells (c*i.size),rfl,Nat.zero_le _,heap_alloc_new w _,Nat.zero_le _,hm,by rw[← h1];simp[madeCells],by simp⟩⟩
 refine⟨.slice (some ⟨w.heap.size,0,none⟩) 0 c,w.alloc (.cells (madeCells z.cells (c*i.size)) E),I,upd β k (.slice (some ⟨w.heap.size,0,none⟩) 0 c),?_,?_⟩
 ·simp[execOp,ho,vx,vy,hrun]
 ·exact hr.appended (v:=.slice none 0 0) hk0 (l:=[]) hgr (.inr fun g hg=>by simp[Value.ownBlock] at hg;omega) ⟨_,_,_,rfl⟩ (.inl rfl) how (cs:=[]) (by simp[DenAs]) (by simp) rfl o.dst
theorem ia_ {P:Program} {τ:Tab} (hτ:ay_ P τ) {ds:Dn} {pn:Pn} {o:Oper} {S:St} {acc:List TI} {rest:St→List TI→Prop} {T E:TypeId} {x y:Operand} {sz1 b1:Nat} {z1:List Value} {te:TE} {kl kc:IntKind} (k:Nat) (ho:o.op=.makeSlice T x y) (ht:τ T=some ⟨.slice E,sz1,b1,z1⟩) (hte:τ E=some te)
  {c:Nat} (hx:S.ev x=.d (.v (.int kl 0))) (hy:S.ev y=.d (.v (.int kc c))) (hc:te.bytes*c≤281474976710656) (hm:c≤maxLen) (hk0:S.has k=false)
  (h:rest (S.app o.dst ⟨.row k,[],[],[(k,.row E te.size 0 [])]⟩) (⟨⟨.row k,[],[],[(k,.row E te.size 0 [])]⟩,[]⟩::acc)):vcStop P ds pn o rest S acc :=
 ⟨_,_,jM_ hτ ho ht hte hx hy hc hm hk0,⟨hk0,trivial⟩,h⟩
theorem yi_ {P:Program} {τ:Tab} (hτ:ay_ P τ) {L:List TypeId} (hL:gOk τ L=true) (hA:L.all (fun t=>iF_ (τ t))=true) {ds:Dn} {pn:Pn} {o:Oper} {g:Bool} {S:St} {acc:List TI} {rest:St→List TI→Prop} {op:BinOp} {T T':TypeId} {x y:Operand}
  (ho:o.op=.binOp op T x y T') (hop:op=.eql∨op=.neq) {q:Nat} (hm:q+1≤10000) {k e byt:Nat} {z:List Value} (ht:τ T=some ⟨.array k e,k*tsz τ e,byt,z⟩) (hke:P.keyTypeAt q e=true) (he:L.contains e=true) (hgd:P.eqGuardType P.depth T=false)
  {n n':Nat} {cs es:List (List D)} (hx:g=true→Leq ((S.under g).ev x) (.d (.agg cs.flatten))) (hy:g=true→Leq ((S.under g).ev y) (.d (.agg es.flatten))) (lc:cs.length=k) (le:es.length=k)
  (oka:∀ c∈cs,OkD τ n e c) (okb:∀ c∈es,OkD τ n' e c) {r:Bool} (hr:r=true↔by_ cs.flatten=by_ es.flatten) (h:rest (S.put o.dst (.when g (.d (.v (.bool (eqRes op r)))))) (⟨⟨.when g (.d (.v (.bool (eqRes op r)))),[],[],[]⟩,[]⟩::acc)):vcStopG P ds pn o rest g S acc :=
 ⟨_,_,fun hg=>oi_ hτ hL hA ho hop hm ht hke he hgd (hx hg) (hy hg) lc le oka okb hr,h⟩
end Go.Xe
namespace Go.Xe
open Go.RowKit
variable [Glob]
end Go.Xe
namespace Go.Xe
open Go.RowKit
variable [Glob]
theorem lQ_ {P:Program} {τ:Tab} (hτ:ay_ P τ) {ds:Dn} {pn:Pn} {o:Oper} {S:St} {T T' E:TypeId} {x y:Operand} {sz1 b1:Nat} {z1:List Value} {te:TE} (ho:o.op=.call ⟨.builtin .copy,#[x,y],#[T,T']⟩) (ht:τ T=some ⟨.slice E,sz1,b1,z1⟩) (hte:τ E=some te)
  {k n:Nat} {cs:List AV} {ys:List D} {fp:List Nat} {m:Nat} (hx:S.ev x=.row k) (hb:getB S.bx k=some (.row E te.size n cs)) (hn:0<n) (hsrc:CpSrc S y fp m ys) (r:Nat) (hr:Nat.min m n=r) (hys:r*te.size≤ys.length) :
  LCore P ds pn o S ⟨.d (.v (.int .i64 r)),[],[(k,.row E te.size n (setL cs 0 ((ys.take (r*te.size)).map .d)))],[]⟩ (k::fp):=by
 intro S1 hs hf
 have ex:=hs.1 x (by simp[ho,Op.operands,Call.operands])
 have ey:=hs.1 y (by simp[ho,Op.operands,Call.operands])
 rw[← ex] at hx
 obtain⟨d,hu,hk⟩:=(hτ T _ ht).und
 simp only[TK.ok] at hk
 subst hk
 have hb1:=(hs.2.2 k (by simp)).trans hb
 refine Core.world fun w0 I0 F I β a w hrel=>?_
 obtain⟨vs,how,hdx,hox⟩:=hrel.mem.bxs k _ hb1
 obtain⟨ad,sc,us,hyv,hdy,hcy,hoy⟩:=hsrc S1 ey (fun i hi=>hs.2.2 i (by simp[hi])) _ _ _ _ _ _ _ _ hrel
 have hv:=hrel.ev x
 rw[hx,DenA] at hv
 have how0:=how
 obtain⟨hl,how2⟩:=how0
 rcases how2 with⟨_,h0⟩|⟨g,cap,cur0,e1,_⟩
 ·omega
 rw[e1] at how
 have hxe:a.eval x=.slice (some ⟨g,0,none⟩) n cap:=by rw[hv.1];exact e1
 have hrn:r≤n:=by rw[← hr];exact Nat.min_le_right _ _
 have hvl:r*te.size≤us.length:=by rw[← hdy.length];exact hys
 have hul:(us.take (r*te.size)).length=r*te.size:=by simp;omega
 have hfc:=run_firstCells_some (P:=P) w te.size r ad m sc (us.take (r*te.size)) hul (fun j v hj=>hcy j v (by
  rw[List.getElem?_take] at hj
  split at hj
  ·exact hj
  ·cases hj))
 have hone:∀ u∈us.take (r*te.size),u.oneCell'=true:=fun u hu=>hoy u (List.mem_of_mem_take hu)
 have hdA:=hdy.take' (r*te.size)
 generalize hA:us.take (r*te.size)=A at hul hfc hone hdA
 have hle:r*te.size≤n*te.size:=Nat.mul_le_mul_right _ hrn
 have hfit:0+A.length≤vs.length:=by rw[hul,hl];omega
 obtain⟨cur,hg,hfc2,hown⟩:=fI_ how hfit
 have hst:=run_storeCells_at P g 0 E A 0 cur w hg (by simpa only[Nat.add_zero] using hfc2) hone
 simp only[Nat.add_zero] at hst
 have hkp:∀ q,Kept w I (w.setRow g q) I:=fun q =>
  ⟨fun _ h=>h,fun i hi=>setRow_other w g i _ (fun e'=>(hrel.mem.sep k _ g hb1 (by rw[e1];exact .inl rfl)).1 (e'▸hi))⟩
 refine⟨.int .i64 r,w.setRow g (cur.toList.take 0++A++cur.toList.drop (0+A.length)).toArray,I,β,?_,?_⟩
 ·obtain⟨C,hC⟩:=aG_ (P:=P) ho
  rw[hC]
  simp[builtin,Builtin.copy_,run_underlying hu,hxe,hyv,Builtin.lenOf,(hτ E te hte).size,hr,hfc,goInt]
  simp at hst
  simp[hst]
 ·rw[di_]
  refine Rel.put (S:=⟨S1.sl,setB S1.bx k (.row E te.size n (setL cs 0 ((ys.take (r*te.size)).map .d))),S1.df⟩) (w:=w.setRow g (cur.toList.take 0++A++cur.toList.drop (0+A.length)).toArray) ⟨hrel.mem.turn (b':=.row E te.size n (setL cs 0 ((ys.take (r*te.size)).map .d))) hb1 (by rw[e1];exact a2_ w g _) ?_,?_,hrel.dn,hrel.fx⟩ o.dst (DenA_v.2 rfl)
  ·rw[e1]
   refine⟨jZ_ vs 0 A,hown,DenAs.setL (DenAs.mono (hkp _) _ _ (fun _ _=>rfl) (.of_dens hdA)) (DenAs.mono (hkp _) _ _ (fun _ _=>rfl) hdx) 0,fun u hu=>?_⟩
   rcases mem_setV _ _ _ _ hu with hu|hu
   ·exact hox u hu
   ·exact hone u hu
  ·exact DenAs.mono (hkp _) _ _ (fun _ _=>rfl) hrel.sl
theorem eL_ {P:Program} {τ:Tab} (hτ:ay_ P τ) {ds:Dn} {pn:Pn} {o:Oper} {S:St} {acc:List TI} {rest:St→List TI→Prop} {T T' E:TypeId} {x y:Operand} {sz1 b1:Nat} {z1:List Value} {te:TE} (ho:o.op=.call ⟨.builtin .copy,#[x,y],#[T,T']⟩) (ht:τ T=some ⟨.slice E,sz1,b1,z1⟩) (hte:τ E=some te)
  {k n:Nat} {cs:List AV} {ys:List D} {fp:List Nat} {m:Nat} (hx:S.ev x=.row k) (hb:getB S.bx k=some (.row E te.size n cs)) (hn:0<n) (hsrc:CpSrc S y fp m ys) (r:Nat) (hr:Nat.min m n=r) (hys:r*te.size≤ys.length) {cs':List AV} (hcs:setL cs 0 ((ys.take (r*te.size)).map .d)=cs')
  (h:rest (S.app o.dst ⟨.d (.v (.int .i64 r)),[],[(k,.row E te.size n cs')],[]⟩) (⟨⟨.d (.v (.int .i64 r)),[],[(k,.row E te.size n cs')],[]⟩,k::fp⟩::acc)):vcStop P ds pn o rest S acc :=
 by subst hcs;exact⟨_,_,lQ_ hτ ho ht hte hx hb hn hsrc r hr hys,trivial,h⟩
theorem jO_ {P:Program} {τ:Tab} (hτ:ay_ P τ) {ds:Dn} {pn:Pn} {o:Oper} {S:St} {T T' E:TypeId} {x y:Operand} {sz1 b1:Nat} {z1:List Value} {te:TE} (ho:o.op=.call ⟨.builtin .copy,#[x,y],#[T,T']⟩) (ht:τ T=some ⟨.slice E,sz1,b1,z1⟩) (hte:τ E=some te)
  {k off dl dc sz:Nat} {f:Bool} {cs:List D} (hx:S.ev x=.psl k off dl dc) (hy:S.ev y=.d (.sl sz cs 0 f)) :
  LCore P ds pn o S ⟨.d (.v (.int .i64 0)),[],[],[]⟩ []:=by
 intro S1 hs hf
 have ex:=hs.1 x (by simp[ho,Op.operands,Call.operands])
 have ey:=hs.1 y (by simp[ho,Op.operands,Call.operands])
 rw[← ex] at hx
 rw[← ey] at hy
 obtain⟨d,hu,hk⟩:=(hτ T _ ht).und
 simp only[TK.ok] at hk
 subst hk
 refine Core.value fun w0 I0 F I β a w hr=>⟨.int .i64 0,?_,DenA_v.2 rfl⟩
 have hv:=hr.ev x
 have hv2:=hr.ev y
 rw[hx] at hv
 obtain⟨b,_,e2⟩:=hv
 rw[hy,DenA,Den] at hv2
 obtain⟨ad,cap,e3,_⟩:=hv2
 obtain⟨C,hC⟩:=aG_ (P:=P) ho
 rw[hC]
 cases ad<;>simp[builtin,Builtin.copy_,run_underlying hu,e2,e3,Builtin.lenOf,(hτ E te hte).size,Builtin.firstCells,storeCells,loadCells,loadCellsFrom,goInt]
theorem ib_ {P:Program} {τ:Tab} (hτ:ay_ P τ) {ds:Dn} {pn:Pn} {o:Oper} {S:St} {acc:List TI} {rest:St→List TI→Prop} {T T' E:TypeId} {x y:Operand} {sz1 b1:Nat} {z1:List Value} {te:TE} (ho:o.op=.call ⟨.builtin .copy,#[x,y],#[T,T']⟩) (ht:τ T=some ⟨.slice E,sz1,b1,z1⟩) (hte:τ E=some te)
  {k off dl dc sz:Nat} {f:Bool} {cs:List D} (hx:S.ev x=.psl k off dl dc) (hy:S.ev y=.d (.sl sz cs 0 f))
  (h:rest (S.app o.dst ⟨.d (.v (.int .i64 0)),[],[],[]⟩) (⟨⟨.d (.v (.int .i64 0)),[],[],[]⟩,[]⟩::acc)):vcStop P ds pn o rest S acc :=
 ⟨_,_,jO_ hτ ho ht hte hx hy,trivial,h⟩
theorem p1_ {P:Program} {τ:Tab} (hτ:ay_ P τ) {ds:Dn} {pn:Pn} {o:Oper} {S:St} {T E:TypeId} {x y:Operand} {sz1 b1:Nat} {z1:List Value} {te:TE} {kl kc:IntKind} (ho:o.op=.makeSlice T x y) (ht:τ T=some ⟨.slice E,sz1,b1,z1⟩) (hte:τ E=some te)
  {k c:Nat} (hx:S.ev x=.d (.v (.int kl c))) (hy:S.ev y=.d (.v (.int kc c))) (hc:te.bytes*c≤281474976710656) (hm:c≤maxLen) (hk0:S.has k=false) :
  LCore P ds pn o S ⟨.row k,[],[],[(k,.row E te.size c (bz_ (List.replicate c te.zero).flatten))]⟩ []:=by
 intro S1 hs hf
 have ex:=hs.1 x (by simp[ho,Op.operands])
 have ey:=hs.1 y (by simp[ho,Op.operands])
 rw[← ex] at hx
 rw[← ey] at hy
 have hk0:S1.has k=false:=hf _ (List.mem_singleton.2 rfl)
 obtain⟨d,hu,hk⟩:=(hτ T _ ht).und
 simp only[TK.ok] at hk
 subst hk
 have tk:=hτ E te hte
 obtain⟨i,z,hi,h1,h2,h3,h4,h5,h6⟩:=tk.info
 refine Core.world fun w0 I0 F I β a w hr=>?_
 have vx:=hr.ev x
 have vy:=hr.ev y
 rw[hx,DenA_v] at vx
 rw[hy,DenA_v] at vy
 have hmx:(maxLen:Nat)≤9223372036854775807:=by decide
 have hb:(i.bytes:Int)*(c:Int)≤281474976710656:=by
  have h:((te.bytes*c:Nat):Int)≤281474976710656:=by omega
  rw[h2]
  rwa[Int.natCast_mul] at h
 have hrun:=run_make (P:=P) w T E i z hu hi h3 kl kc c c (by omega) (by omega) hb (by omega)
 simp only[Int.toNat_natCast] at hrun
 have hzs:z.cells.size=te.size:=by rw[← Array.length_toList,h4,h5]
 have hce:(madeCells z.cells (c*i.size)).toList=(List.replicate c te.zero).flatten:=by
  rw[h1,← hzs,← h4]
  exact ks_ z.cells c
 have hone:∀ v∈(madeCells z.cells (c*i.size)).toList,v.oneCell'=true:=fun v hv=>by
  rw[hce] at hv
  simp only[List.mem_flatten,List.mem_replicate] at hv
  obtain⟨l,⟨_,rfl⟩,hv⟩:=hv
  exact tk.zone v hv
 have hlen:(madeCells z.cells (c*i.size)).toList.length=c*te.size:=by
  rw[hce,fs_,h5]
 have hgr:=Gb.alloc w (.cells (madeCells z.cells (c*i.size)) E) none
 have how:(w.alloc (.cells (madeCells z.cells (c*i.size)) E)).ownsRow 0 E te.size (.slice (some ⟨w.heap.size,0,none⟩) c c) c (madeCells z.cells (c*i.size)).toList :=
  ⟨hlen,.inr ⟨w.heap.size,c,madeCells z.cells (c*i.size),rfl,Nat.zero_le _,heap_alloc_new w _,Nat.le_refl _,hm,by rw[← h1];simp[madeCells],List.take_of_length_le (Nat.le_of_eq hlen)⟩⟩
 refine⟨.slice (some ⟨w.heap.size,0,none⟩) c c,w.alloc (.cells (madeCells z.cells (c*i.size)) E),I,upd β k (.slice (some ⟨w.heap.size,0,none⟩) c c),?_,?_⟩
 ·simp[execOp,ho,vx,vy,hrun]
 ·have hcon:DenAs w I β (bz_ (List.replicate c te.zero).flatten) (madeCells z.cells (c*i.size)).toList:=by rw[hce];exact bj_ _
  exact hr.appended (v:=.slice none 0 0) hk0 (l:=[]) hgr (.inr fun g hg=>by simp[Value.ownBlock] at hg;omega) ⟨_,_,_,rfl⟩ (.inl rfl) how hcon hone (iS_ k _) o.dst
theorem cK_ {P:Program} {τ:Tab} (hτ:ay_ P τ) {ds:Dn} {pn:Pn} {o:Oper} {S:St} {acc:List TI} {rest:St→List TI→Prop} {T E:TypeId} {x y:Operand} {sz1 b1:Nat} {z1:List Value} {te:TE} {kl kc:IntKind} (k:Nat) (ho:o.op=.makeSlice T x y) (ht:τ T=some ⟨.slice E,sz1,b1,z1⟩) (hte:τ E=some te)
  {c:Nat} (hx:S.ev x=.d (.v (.int kl c))) (hy:S.ev y=.d (.v (.int kc c))) (hc:te.bytes*c≤281474976710656) (hm:c≤maxLen) (hk0:S.has k=false) {cs:List AV} (hcs:bz_ (List.replicate c te.zero).flatten=cs)
  (h:rest (S.app o.dst ⟨.row k,[],[],[(k,.row E te.size c cs)]⟩) (⟨⟨.row k,[],[],[(k,.row E te.size c cs)]⟩,[]⟩::acc)):vcStop P ds pn o rest S acc :=
 by subst hcs;exact⟨_,_,p1_ hτ ho ht hte hx hy hc hm hk0,⟨hk0,trivial⟩,h⟩
end Go.Xe
