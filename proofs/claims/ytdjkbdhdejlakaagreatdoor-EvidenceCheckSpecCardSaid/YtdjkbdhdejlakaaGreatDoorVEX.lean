/-
  The engine: a row of the call's own whose block and room are told; its parts; copy; zeros appended where there is no room; whether two slices overlap.
-/
import Derived.Test.YtdjkbdhdejlakaaGreatDoorVZI
import Derived.Test.YtdjkbdhdejlakaaGreatDoorVVC
import Derived.Lib.AppendZerosOnto
import Derived.Lib.Overlaps
set_option linter.unusedVariables false
set_option linter.unusedSimpArgs false
set_option linter.unusedSectionVars false
namespace Go.Xe
open Go.RowKit
variable [Glob]
def ExP (T:TypeId) (sz g n c:Nat) (xs:List D) (y:Value) (w:World) (I:Nat→Prop):Prop :=
 y=.slice (some ⟨g,0,none⟩) n c∧n≤c∧c≤maxLen∧∃ (cur:Array Value) (us:List Value),w.heap[g]? = some (.cells cur T (0,0))∧cur.size=c*sz∧cur.toList.take us.length=us∧Dens w I xs us∧∀ u∈us,u.oneCell'=true
def Ex (T:TypeId) (sz g n c:Nat) (xs:List D):Box:=.opq (ExP T sz g n c xs)
section
variable {T:TypeId} {sz g n c:Nat} {xs:List D} {w:World} {I:Nat→Prop} {β:Nat→Value} {y:Value}
theorem Ex.out (h:BoxRel w I β y (Ex T sz g n c xs)):ExP T sz g n c xs y w I:=by
 obtain⟨w1,I1,⟨rfl,hn,hc,cur,us,hg,hs,htk,hd,ho⟩,hk,hb⟩:=h
 refine⟨rfl,hn,hc,cur,us,?_,hs,htk,Dens.mono hk _ _ hd,ho⟩
 rw[(hb g (.inl rfl)).2];exact hg
theorem Cc_ (h:ExP T sz g n c xs y w I):BoxRel w I β y (Ex T sz g n c xs):=by
 refine⟨w,I,h,.refl w I,fun m hm=>⟨?_,rfl⟩⟩
 obtain⟨rfl,_,_,cur,us,hg,_⟩:=h
 have e:m=g:=Blk.one rfl hm
 subst e
 exact (Array.getElem?_eq_some_iff.1 hg).1
end
def exA (k:Nat) (v:Value):AV→AV
 | .row j=>if j=k then .d (.v v) else .row j
 | x=>x
theorem Dens.take' {w:World} {I:Nat→Prop}:∀ {cs:List D} {vs:List Value} (_:Dens w I cs vs) (n:Nat),Dens w I (cs.take n) (vs.take n):=fun h n=>by
 have:=(DenAs.of_dens (β:=fun _=>undef) h).take n
 rw[← List.map_take] at this
 exact this.to_dens
theorem Dens.drop' {w:World} {I:Nat→Prop}:∀ {cs:List D} {vs:List Value} (_:Dens w I cs vs) (n:Nat),Dens w I (cs.drop n) (vs.drop n):=fun h n=>by
 have:=(DenAs.of_dens (β:=fun _=>undef) h).drop n
 rw[← List.map_drop] at this
 exact this.to_dens
theorem tM_ {w:World} {I:Nat→Prop} {β:Nat→Value} {k:Nat} {v:Value} (hk:β k=v):∀ {l:List AV} {vs:List Value},DenAs w I β l vs→DenAs w I β (l.map (exA k v)) vs
 | [],_,h=>h
 | x::l,vs,h=>by
  obtain⟨y,ys,rfl,h1,h2⟩:=h
  refine⟨y,ys,rfl,?_,tM_ hk h2⟩
  cases x with
  | row j =>
   show DenA w I β (if j=k then .d (.v v) else .row j) y
   split
   ·rename_i e
    subst e
    rw[DenA] at h1
    rw[DenA_v,h1.1,hk]
   ·exact h1
  | d _=>exact h1
  | ptr _ _=>exact h1
  | agg _=>exact h1
  | tup _=>exact h1
  | fn _ _ _=>exact h1
  | rptr _ _=>exact h1
  | psl _ _ _ _=>exact h1
  | rsl _ _ _=>exact h1
  | iface _ _=>exact h1
  | _         =>exact h1
theorem xb_ {S:St} {k:Nat} {T:TypeId} {sz n:Nat} {xs:List D} (hb:getB S.bx k=some (.row T sz n (xs.map .d))) (hn:0<n) :
  Opn (α:={p:Nat×Nat // n≤p.2∧p.2≤maxLen}) S fun p=>⟨S.sl.map (exA k (.slice (some ⟨p.1.1,0,none⟩) n p.1.2)),setB S.bx k (Ex T sz p.1.1 n p.1.2 xs),S.df⟩:=fun ds w0 I0 F I β a w hr=>by
 obtain⟨vs,⟨hl,how⟩,hd,ho⟩:=hr.mem.bxs k _ hb
 rcases how with⟨_,h0⟩|⟨g,cap,cur,hyv,hz0,hg,hnc,hcm,hcs,htk⟩
 ·omega
 refine⟨⟨(g,cap),hnc,hcm⟩,I,β,?_⟩
 have h1:=hr.say hb (b':=Ex T sz g n cap xs) (Cc_ ⟨hyv,hnc,hcm,cur,vs,hg,by simpa using hcs,by rw[hl];exact htk,hd.to_dens,ho⟩)
 exact⟨h1.mem,tM_ hyv hr.sl,hr.dn,hr.fx⟩
theorem um_ {S:St} (t k j m:Nat) {T:TypeId} {sz g n c:Nat} {xs:List D} (hb:getB S.bx k=some (Ex T sz g n c xs)) (hm:m≤c) (hx:xs.length=m*sz)
  (ht:S.sl[t]? = some (.d (.v (.slice (some ⟨g,0,none⟩) m c)))) (hj:S.has j=false):Wk S ⟨S.sl.set t (.row j),setB (delB S.bx k) j (.row T sz m (xs.map .d)),S.df⟩:=fun ds w0 I0 F I β a w hr=>by
 obtain⟨hs,hb2⟩:=aG_ hj
 have hlt:=bY_ hj
 obtain⟨e,hnc,hcm,cur,us,hg,hcs,htk,hd,ho⟩:=Ex.out (hr.mem.bxs k _ hb)
 have hbk:∀ q,Blk (.slice (some ⟨g,0,none⟩) m c) q→q=g:=fun q hq=>Blk.one rfl hq
 have hkg:Blk (β k) g:=by rw[e];exact .inl rfl
 have hul:us.length=m*sz:=by rw[← hd.length];exact hx
 have hm2:Mem w0 I0 F (setB (delB S.bx k) j (.row T sz m (xs.map .d))) I (upd β j (.slice (some ⟨g,0,none⟩) m c)) w:=by
  refine (hr.mem.del k).add (fH_ hb2) ⟨us,⟨hul,.inr ⟨g,c,cur,rfl,Nat.zero_le _,hg,hm,hcm,by simpa using hcs,by rw[← hul];exact htk⟩⟩,DenAs.of_dens hd,ho⟩ fun q hq=>?_
  have hq:=hbk q hq
  subst hq
  obtain⟨h1,h2⟩:=hr.mem.sep k _ q hb hkg
  refine⟨h1,h2,fun i b hi hiq=>?_⟩
  rw[getB_del] at hi
  split at hi
  ·cases hi
  ·rename_i hne
   exact hne (hr.mem.inj k i _ b q hb hi hkg hiq)
 refine⟨I,upd β j (.slice (some ⟨g,0,none⟩) m c),hm2,?_,hr.dn,fun i hi=>by rw[upd_other _ _ (by omega)];exact hr.fx i hi⟩
 have h1:DenAs w I (upd β j (.slice (some ⟨g,0,none⟩) m c)) S.sl a.tmps.toList:=DenAs.mono (Kept.refl w I) _ _ (fun i hi=>upd_other _ _ fun e=>by subst e;rw[hs] at hi;cases hi) hr.sl
 obtain⟨y,hy,hd⟩:=hr.sl.get ht
 rw[DenA_v] at hd
 subst hd
 have h2:=DenAs.set (x:=.row j) (y:=.slice (some ⟨g,0,none⟩) m c) (w:=w) (I:=I) (β:=upd β j (.slice (some ⟨g,0,none⟩) m c)) (by rw[DenA,upd_same];exact⟨rfl,.inl ⟨_,_,_,rfl⟩⟩) h1 t
 rwa[show a.tmps.toList.set t (.slice (some ⟨g,0,none⟩) m c)=a.tmps.toList from by rw[set_self hy]] at h2
/-! ### its room, its parts -/
theorem po_ {P:Program} {τ:Tab} (hτ:aq_ P τ) {ds:Dn} {pn:Pn} {o:Oper} {S:St} {T E:TypeId} {x:Operand} {sz1 b1:Nat} {z1:List Value} (ho:o.op=.call ⟨.builtin .cap,#[x],#[T]⟩) (ht:τ T=some ⟨.slice E,sz1,b1,z1⟩)
  {q:Option Addr} {n c:Nat} (hx:S.ev x=.d (.v (.slice q n c))):LCore P ds pn o S ⟨.d (.v (.int .i64 c)),[],[],[]⟩ []:=by
 intro S1 hs hf
 have ex:=hs.1 x (by simp[ho,Op.operands,Call.operands])
 rw[← ex] at hx
 obtain⟨d,hu,hk⟩:=(hτ T _ ht).und
 simp only[TK.ok] at hk
 subst hk
 refine Core.value fun w0 I0 F I β a w hr=>⟨_,?_,DenA_v.2 rfl⟩
 have hv:=hr.ev x
 rw[hx,DenA_v] at hv
 obtain⟨C,hC⟩:=aB_ (P:=P) ho
 rw[hC]
 simp[builtin,Builtin.cap_,run_underlying hu,hv,goInt]
theorem lA_ {P:Program} {τ:Tab} (hτ:aq_ P τ) {ds:Dn} {pn:Pn} {o:Oper} {S:St} {acc:List TI} {rest:St→List TI→Prop} {T E:TypeId} {x:Operand} {sz1 b1:Nat} {z1:List Value} (ho:o.op=.call ⟨.builtin .cap,#[x],#[T]⟩) (ht:τ T=some ⟨.slice E,sz1,b1,z1⟩)
  {q:Option Addr} {n c:Nat} (hx:S.ev x=.d (.v (.slice q n c))) (h:rest (S.app o.dst ⟨.d (.v (.int .i64 c)),[],[],[]⟩) (⟨⟨.d (.v (.int .i64 c)),[],[],[]⟩,[]⟩::acc)):vcStop P ds pn o rest S acc :=
 ⟨_,_,po_ hτ ho ht hx,trivial,h⟩
theorem ln_ {P:Program} {τ:Tab} (hτ:aq_ P τ) {ds:Dn} {pn:Pn} {o:Oper} {S:St} {T E:TypeId} {x:Operand} {lo hi:Option Operand} {sz1 b1:Nat} {z1:List Value} {te:TE} (ho:o.op=.slice T x lo hi none) (ht:τ T=some ⟨.slice E,sz1,b1,z1⟩) (hte:τ E=some te)
  {g off n c l h:Nat} (hx:S.ev x=.d (.v (.slice (some ⟨g,off,none⟩) n c))) (hl:fU_ S lo 0=some (l:Int)) (hh:fU_ S hi n=some (h:Int)) (h1:l≤h) (h2:h≤c) (h3:l<c) :
  LCore P ds pn o S ⟨.d (.v (.slice (some ⟨g,off+l*te.size,none⟩) (h-l) (c-l))),[],[],[]⟩ []:=by
 intro S1 hs hf
 have ex:=hs.1 x (by simp[ho,Op.operands])
 have eb:∀ (y:Option Operand) d,(∀ z,y=some z→z∈o.op.operands)→fU_ S1 y d=fU_ S y d:=fun y d hy=>by
  unfold fU_;split
  ·rfl
  ·rename_i z;rw[hs.1 z (hy z rfl)]
 have el:=eb lo 0 (fun z hz=>by simp[ho,Op.operands,hz])
 have eh:=eb hi n (fun z hz=>by simp[ho,Op.operands,hz])
 rw[← ex] at hx
 rw[← el] at hl
 rw[← eh] at hh
 obtain⟨d,hu,hk⟩:=(hτ T _ ht).und
 simp only[TK.ok] at hk
 subst hk
 refine Core.value fun w0 I0 F I β a w hr=>⟨_,?_,DenA_v.2 rfl⟩
 have hv:=hr.ev x
 rw[hx,DenA_v] at hv
 have hbd:=aY_ (P:=P) (isS:=true) (n:=n) (cap:=c) (lo:=lo) (hi:=hi) hr hl hh (by omega) (by omega) (by omega)
 simp[execOp,ho,Instr.sliceAt,Instr.slice,hv,run_underlying hu,hbd,(hτ E te hte).size]
 simp[Addr.add_lit]
 omega
theorem aJ_ {P:Program} {τ:Tab} (hτ:aq_ P τ) {ds:Dn} {pn:Pn} {o:Oper} {S:St} {acc:List TI} {rest:St→List TI→Prop} {T E:TypeId} {x:Operand} {lo hi:Option Operand} {sz1 b1:Nat} {z1:List Value} {te:TE} (ho:o.op=.slice T x lo hi none) (ht:τ T=some ⟨.slice E,sz1,b1,z1⟩) (hte:τ E=some te)
  {g off n c l h:Nat} (hx:S.ev x=.d (.v (.slice (some ⟨g,off,none⟩) n c))) (hl:fU_ S lo 0=some (l:Int)) (hh:fU_ S hi n=some (h:Int)) (h1:l≤h) (h2:h≤c) (h3:l<c)
  (hr:rest (S.app o.dst ⟨.d (.v (.slice (some ⟨g,off+l*te.size,none⟩) (h-l) (c-l))),[],[],[]⟩) (⟨⟨.d (.v (.slice (some ⟨g,off+l*te.size,none⟩) (h-l) (c-l))),[],[],[]⟩,[]⟩::acc)):vcStop P ds pn o rest S acc :=
 ⟨_,_,ln_ hτ ho ht hte hx hl hh h1 h2 h3,trivial,hr⟩
theorem cb_ {w:World} {g:Nat} {cur:Array Value} {T:TypeId} (hg:w.heap[g]? = some (.cells cur T (0,0))) (j:Nat):w.cell? ⟨g,j,none⟩=cur[j]? := by simp[World.cell?,hg]
theorem jl_ {P:Program} {τ:Tab} (hτ:aq_ P τ) {ds:Dn} {pn:Pn} {o:Oper} {S:St} {T E:TypeId} {x y:Operand} {sz1 b1:Nat} {z1:List Value} {te:TE} {kx:IntKind} (ho:o.op=.slice T x (some y) none none) (ht:τ T=some ⟨.slice E,sz1,b1,z1⟩) (hte:τ E=some te)
  {k:Nat} (hx:S.ev x=.row k) {n:Nat} {cs:List AV} (hb:getB S.bx k=some (.row E te.size n cs)) {m:Nat} (hm:m≤n) (hy:S.ev y=.d (.v (.int kx m))) :
  LCore P ds pn o S ⟨.d .any,[],[],[]⟩ [k]:=by
 intro S1 hs hf
 have ex:=hs.1 x (by simp[ho,Op.operands])
 have ey:=hs.1 y (by simp[ho,Op.operands])
 rw[← ex] at hx
 rw[← ey] at hy
 obtain⟨d,hu,hk⟩:=(hτ T _ ht).und
 simp only[TK.ok] at hk
 subst hk
 have hb1:=(hs.2.2 k (by simp)).trans hb
 refine Core.value fun w0 I0 F I β a w hr=>?_
 obtain⟨xs,how,hdx,hox⟩:=hr.mem.bxs k _ hb1
 have hv:=hr.ev x
 rw[hx,DenA] at hv
 obtain⟨q,cap,hxe,hnc⟩:∃ q cap,a.eval x=.slice q n cap∧n≤cap:=by
  rcases how.2 with⟨hyv,h0⟩|⟨g,cap,cur,hyv,hz0,hg,hnc,hcm,hcs,htk⟩
  ·exact⟨none,0,by rw[hv.1,hyv,h0],by omega⟩
  ·exact⟨some ⟨g,0,none⟩,cap,by rw[hv.1];exact hyv,hnc⟩
 have hbd:=aY_ (P:=P) (isS:=true) (n:=n) (cap:=cap) (lo:=some y) (hi:=none) hr (l:=m) (by show n6_ (S1.ev y)=_;rw[hy];rfl) rfl (by omega) (by omega) (by omega)
 simp only[Option.map_none,Option.map_some] at hbd
 refine⟨.slice (if cap=m then q else q.map (·.add (m*te.size))) (n-m) (cap-m),?_,aX_ _ _ _ _⟩
 simp[execOp,ho,Instr.sliceAt,Instr.slice,hxe,run_underlying hu,hbd,(hτ E te hte).size]
theorem hC_ {P:Program} {τ:Tab} (hτ:aq_ P τ) {ds:Dn} {pn:Pn} {o:Oper} {S:St} {acc:List TI} {rest:St→List TI→Prop} {T E:TypeId} {x y:Operand} {sz1 b1:Nat} {z1:List Value} {te:TE} {kx:IntKind} (ho:o.op=.slice T x (some y) none none) (ht:τ T=some ⟨.slice E,sz1,b1,z1⟩) (hte:τ E=some te)
  {k:Nat} (hx:S.ev x=.row k) {n:Nat} {cs:List AV} (hb:getB S.bx k=some (.row E te.size n cs)) {m:Nat} (hm:m≤n) (hy:S.ev y=.d (.v (.int kx m)))
  (h:rest (S.app o.dst ⟨.d .any,[],[],[]⟩) (⟨⟨.d .any,[],[],[]⟩,[k]⟩::acc)):vcStop P ds pn o rest S acc :=
 ⟨_,_,jl_ hτ ho ht hte hx hb hm hy,trivial,h⟩
/-! ### zeros appended to a part of it, where there is no room -/
theorem iY_ {P:Program} {τ:Tab} (hτ:aq_ P τ) {ds:Dn} {pn:Pn} {o:Oper} {S:St} {T T' E:TypeId} {x y:Operand} (ho:o.op=.call ⟨.builtin .append,#[x,y],#[T,T']⟩) {j k:Nat}
  {te:TE} {kn kx:IntKind} {sz1 b1 sz2 b2:Nat} {z1 z2:List Value} (ht:τ T=some ⟨.slice E,sz1,b1,z1⟩) (ht':τ T'=some ⟨.int kn,sz2,b2,z2⟩) (hte:τ E=some te) (hts:0<te.size)
  {g n c i m:Nat} {xs:List D} (hx:S.ev x=.d (.v (.slice (some ⟨g,0,none⟩) i c))) (hb:getB S.bx k=some (Ex E te.size g n c xs)) (hi:i*te.size≤xs.length) (hm:0<m) (hy:S.ev y=.d (.v (.int kx m))) (hroom:c<i+m)
  (hbnd:(i+m)*(te.bytes+1)≤140737488355328) (hj:S.has j=false) :
  LCore P ds pn o S ⟨.row j,[],[],[(j,.row E te.size (i+m) ((xs.take (i*te.size)++List.replicate (m*te.size) D.any).map .d))]⟩ [k]:=by
 intro S1 hs hf
 have ex:=hs.1 x (by simp[ho,Op.operands,Call.operands])
 have ey:=hs.1 y (by simp[ho,Op.operands,Call.operands])
 rw[← ex] at hx
 rw[← ey] at hy
 obtain⟨d,hu,hk⟩:=(hτ T _ ht).und
 obtain⟨d',hu',hk'⟩:=(hτ T' _ ht').und
 simp only[TK.ok] at hk hk'
 subst hk;subst hk'
 obtain⟨inf,z,hinf,his,hib,hiz,hzc,hzl',hz1⟩:=(hτ E te hte).info
 have hzs:z.cells.size=te.size:=by rw[← Array.length_toList,hzc];exact hzl'
 have hk0:S1.has j=false:=hf _ (List.mem_singleton.2 rfl)
 have hb1:=(hs.2.2 k (by simp)).trans hb
 have hmax:i+m≤maxLen:=by
  simp only[maxLen]
  have:i+m≤(i+m)*(te.bytes+1):=Nat.le_mul_of_pos_right _ (by omega)
  omega
 have hbyt:(i+m)*inf.bytes≤140737488355328:=by rw[hib];exact Nat.le_trans (Nat.mul_le_mul_left _ (by omega)) hbnd
 have hmb:m*inf.bytes≤281474976710656:=Nat.le_trans (Nat.mul_le_mul_right _ (by omega:m≤i+m)) (by omega)
 refine Core.world fun w0 I0 F I β a w hr=>?_
 obtain⟨e,hnc,hcm,cur,us,hg,hcs,htk,hd,ho1⟩:=Ex.out (hr.mem.bxs k _ hb1)
 have hv:=hr.ev x
 have hvy:=hr.ev y
 rw[hx,DenA_v] at hv
 rw[hy,DenA_v] at hvy
 have hiu:i*te.size≤us.length:=by rw[← hd.length];exact hi
 have hold:=run_firstCells_some (P:=P) w.drew te.size i ⟨g,0,none⟩ i c (us.take (i*te.size)) (by simp;omega) (fun q v hj=>by
  rw[Addr.add_lit,Nat.zero_add]
  show w.cell? ⟨g,q,none⟩=some v
  rw[cb_ hg,← Array.getElem?_toList]
  rw[List.getElem?_take] at hj
  split at hj
  ·rw[← htk,List.getElem?_take] at hj
   split at hj
   ·exact hj
   ·cases hj
  ·cases hj)
 rw[show te.size=inf.size from his.symm] at hold hiu
 have e0:us.take (i*inf.size)=us.take (i*te.size):=by rw[his]
 rw[e0] at hold
 rw[his] at hiu
 have hrun:=Lib.run_append_grow_zeros (P:=P) w T T' o.type E inf z kx kn hu hu' hinf hiz (some ⟨g,0,none⟩) i c (us.take (i*te.size)) hold m hm (by omega) hroom (by simp only[maxLen] at hmax;omega) hmb (growslice_fits hroom hbyt)
 let us2:=us.take (i*te.size)++(Builtin.zeroCells z.cells m).toList
 have hzl:(Builtin.zeroCells z.cells m).toList.length=m*te.size:=by simp[size_zeroCells,hzs]
 have hul2:us2.length=(i+m)*te.size:=by simp only[us2,List.length_append,List.length_take,hzl];rw[Nat.add_mul];omega
 have hge:=grownCap_ge w (i+m) c E
 have how:(w.drew.alloc (.cells ((us.take (i*te.size)).toArray++Builtin.zeroCells z.cells m++Builtin.zeroCells z.cells (grownCap w (i+m) c E-(i+m))) E)).ownsRow 0 E te.size
    (.slice (some ⟨w.heap.size,0,none⟩) (i+m) (grownCap w (i+m) c E)) (i+m) us2:=by
  refine⟨hul2,.inr ⟨w.heap.size,_,_,rfl,Nat.zero_le _,heap_alloc_new w.drew _,hge,grownCap_le_maxLen w (i+m) c E hmax,?_,?_⟩⟩
  ·simp only[Array.size_append,List.size_toArray,size_zeroCells,hzs,List.length_take]
   have e1:min (i*te.size) us.length=i*te.size:=by omega
   rw[e1,← Nat.add_mul,← Nat.add_mul]
   congr 1
   omega
  ·simp only[Array.toList_append]
   rw[← hul2]
   exact List.take_left
 have hany:∀ (q:Nat) (l:List Value),l.length=q→Dens w I (List.replicate q D.any) l:=fun q=>by
  induction q with
  | zero=>intro l h;cases l with
   | nil=>rfl
   | cons _ _=>cases h
  | succ q ih=>intro l h;cases l with
   | nil=>cases h
   | cons u l=>exact⟨u,l,rfl,uy_ _ _ _,ih l (by simpa using h)⟩
 refine⟨_,_,I,upd β j _,?_,hr.appended (v:=.slice none 0 0) (l:=[]) hk0 (br_ w (Gb.alloc w.drew _ _)) (.inr fun q hq=>?_) ⟨_,_,_,rfl⟩ (.inl rfl) how (DenAs.of_dens ((hd.take' (i*te.size)).app (hany _ _ hzl))) (fun u hu=>?_) (hasL_d _) o.dst⟩
 ·obtain⟨C,hC⟩:=aB_ (P:=P) ho
  rw[hC]
  simp[builtin,hv,hvy,hrun]
 ·simp[Value.ownBlock] at hq
  omega
 ·rcases List.mem_append.1 hu with hu|hu
  ·exact ho1 u (List.mem_of_mem_take hu)
  ·have:=dm_ (by rw[hzs];omega) hu
   rw[hzc] at this
   exact List.all_eq_true.1 hz1 u this
theorem g4_ {P:Program} {τ:Tab} (hτ:aq_ P τ) {ds:Dn} {pn:Pn} {o:Oper} {S:St} {acc:List TI} {rest:St→List TI→Prop} {T T' E:TypeId} {x y:Operand} (ho:o.op=.call ⟨.builtin .append,#[x,y],#[T,T']⟩) (j:Nat) {k:Nat}
  {te:TE} {kn kx:IntKind} {sz1 b1 sz2 b2:Nat} {z1 z2:List Value} (ht:τ T=some ⟨.slice E,sz1,b1,z1⟩) (ht':τ T'=some ⟨.int kn,sz2,b2,z2⟩) (hte:τ E=some te) (hts:0<te.size)
  {g n c i m:Nat} {xs:List D} (hx:S.ev x=.d (.v (.slice (some ⟨g,0,none⟩) i c))) (hb:getB S.bx k=some (Ex E te.size g n c xs)) (hi:i*te.size≤xs.length) (hm:0<m) (hy:S.ev y=.d (.v (.int kx m))) (hroom:c<i+m)
  (hbnd:(i+m)*(te.bytes+1)≤140737488355328) (hj:S.has j=false)
  (h:rest (S.app o.dst ⟨.row j,[],[],[(j,.row E te.size (i+m) ((xs.take (i*te.size)++List.replicate (m*te.size) D.any).map .d))]⟩) (⟨⟨.row j,[],[],[(j,.row E te.size (i+m) ((xs.take (i*te.size)++List.replicate (m*te.size) D.any).map .d))]⟩,[k]⟩::acc)):vcStop P ds pn o rest S acc :=
 ⟨_,_,iY_ hτ ho ht ht' hte hts hx hb hi hm hy hroom hbnd hj,⟨hj,trivial⟩,h⟩
/-! ### copy -/
def CpSrc (S:St) (y:Operand) (fp:List Nat) (m:Nat) (ys:List D):Prop:=∀ S1,S1.ev y=S.ev y→(∀ k∈fp,getB S1.bx k=getB S.bx k)→∀ ds w0 I0 F I β a w,Rel ds w0 I0 F S1 I β a w →
 ∃ ad sc us,a.eval y=.slice (some ad) m sc∧Dens w I ys us∧(∀ j v,us[j]? = some v→w.cell? (ad.add j)=some v)∧∀ u∈us,u.oneCell'=true
theorem qP_ {S:St} {y:Operand} {k:Nat} {T:TypeId} {sz g off n c m c':Nat} {xs:List D} (hy:S.ev y=.d (.v (.slice (some ⟨g,off,none⟩) m c'))) (hb:getB S.bx k=some (Ex T sz g n c xs)):CpSrc S y [k] m (xs.drop off):=fun S1 ey eb ds w0 I0 F I β a w hr=>by
 obtain⟨e,hnc,hcm,cur,us,hg,hcs,htk,hd,ho⟩:=Ex.out (hr.mem.bxs k _ ((eb k (by simp)).trans hb))
 have hv:=hr.ev y
 rw[ey,hy,DenA_v] at hv
 refine⟨_,_,us.drop off,hv,hd.drop' off,fun j v hj=>?_,fun u hu=>ho u (List.mem_of_mem_drop hu)⟩
 rw[Addr.add_lit,cb_ hg,← Array.getElem?_toList]
 rw[List.getElem?_drop] at hj
 rw[← htk,List.getElem?_take] at hj
 split at hj
 ·exact hj
 ·cases hj
theorem CpSrc.row {S:St} {y:Operand} {k:Nat} {T:TypeId} {sz m:Nat} {ys:List D} (hy:S.ev y=.row k) (hb:getB S.bx k=some (.row T sz m (ys.map .d))) (hm:0<m):CpSrc S y [k] m ys:=fun S1 ey eb ds w0 I0 F I β a w hr=>by
 obtain⟨vs,how,hd,ho⟩:=hr.mem.bxs k _ ((eb k (by simp)).trans hb)
 have hv:=hr.ev y
 rw[ey,hy,DenA] at hv
 rcases how.2 with⟨_,h0⟩|⟨g,cap,cur,hyv,_⟩
 ·omega
 ·exact⟨_,cap,vs,by rw[hv.1];exact hyv,hd.to_dens,how.cells (g:=g) (by rw[hyv];rfl),ho⟩
theorem nu_ {P:Program} {τ:Tab} (hτ:aq_ P τ) {ds:Dn} {pn:Pn} {o:Oper} {S:St} {T T' E T0:TypeId} {x y:Operand} {sz1 b1:Nat} {z1:List Value} {te:TE} (ho:o.op=.call ⟨.builtin .copy,#[x,y],#[T,T']⟩) (ht:τ T=some ⟨.slice E,sz1,b1,z1⟩) (hte:τ E=some te)
  {k g off dl dc n c:Nat} {xs ys:List D} {fp:List Nat} {m:Nat} (hx:S.ev x=.d (.v (.slice (some ⟨g,off,none⟩) dl dc))) (hb:getB S.bx k=some (Ex T0 te.size g n c xs)) (hsrc:CpSrc S y fp m ys) (r:Nat) (hr:Nat.min m dl=r)
  (hys:r*te.size≤ys.length) (hof:off≤xs.length) (hfit:off+r*te.size≤c*te.size) :
  LCore P ds pn o S ⟨.d (.v (.int .i64 r)),[],[(k,Ex T0 te.size g n c (xs.take off++ys.take (r*te.size)++xs.drop (off+r*te.size)))],[]⟩ (k::fp):=by
 intro S1 hs hf
 have ex:=hs.1 x (by simp[ho,Op.operands,Call.operands])
 have ey:=hs.1 y (by simp[ho,Op.operands,Call.operands])
 rw[← ex] at hx
 obtain⟨d,hu,hk⟩:=(hτ T _ ht).und
 simp only[TK.ok] at hk
 subst hk
 have hb1:=(hs.2.2 k (by simp)).trans hb
 refine Core.world fun w0 I0 F I β a w hrel=>?_
 obtain⟨e,hnc,hcm,cur,us,hg,hcs,htk,hd,ho1⟩:=Ex.out (hrel.mem.bxs k _ hb1)
 obtain⟨ad,sc,vs,hyv,hdy,hcy,hoy⟩:=hsrc S1 ey (fun i hi=>hs.2.2 i (by simp[hi])) _ _ _ _ _ _ _ _ hrel
 have hv:=hrel.ev x
 rw[hx,DenA_v] at hv
 have hvl:r*te.size≤vs.length:=by rw[← hdy.length];exact hys
 have hul:(vs.take (r*te.size)).length=r*te.size:=by simp;omega
 have hfc:=run_firstCells_some (P:=P) w te.size r ad m sc (vs.take (r*te.size)) hul (fun j v hj=>hcy j v (by
  rw[List.getElem?_take] at hj
  split at hj
  ·exact hj
  ·cases hj))
 have hone:∀ u∈vs.take (r*te.size),u.oneCell'=true:=fun u hu=>hoy u (List.mem_of_mem_take hu)
 have hst:=run_storeCells_at P g off T0 (vs.take (r*te.size)) 0 cur w hg (by rw[hul];simp only[Nat.add_zero];omega) hone
 simp only[Nat.add_zero] at hst
 generalize hA:vs.take (r*te.size)=A at hst hul hfc hone
 have hkp:∀ q,Kept w I (w.setRow g q) I:=fun q =>
  ⟨fun _ h=>h,fun i hi=>setRow_other w g i _ (fun e'=>(hrel.mem.sep k _ g hb1 (by rw[e];exact .inl rfl)).1 (e'▸hi))⟩
 refine⟨.int .i64 r,w.setRow g (cur.toList.take off++A++cur.toList.drop (off+A.length)).toArray,I,β,?_,?_⟩
 ·obtain⟨C,hC⟩:=aB_ (P:=P) ho
  rw[hC]
  simp[builtin,Builtin.copy_,run_underlying hu,hv,hyv,Builtin.lenOf,(hτ E te hte).size,hr,hfc,hst,goInt]
 ·rw[by_]
  have hxl:=hd.length
  have hcl:us.length≤cur.toList.length:=by rw[← htk];simp[List.length_take];omega
  refine Rel.put (S:=⟨S1.sl,setB S1.bx k _,S1.df⟩) ⟨hrel.mem.turn (b':=Ex T0 te.size g n c _) hb1 (by rw[e];exact aZ_ w g _) (Cc_ ⟨e,hnc,hcm,_,us.take off++A++us.drop (off+A.length),setRow_heap w g cur _ _ _ hg,?_,?_,?_,?_⟩),DenAs.mono (hkp _) _ _ (fun _ _=>rfl) hrel.sl,hrel.dn,hrel.fx⟩ o.dst (DenA_v.2 rfl)
  ·simp
   omega
  ·have h1:us.take off=cur.toList.take off:=by
    rw[← htk,List.take_take,Nat.min_eq_left (by omega)]
   have h2:us.drop (off+A.length)=(cur.toList.drop (off+A.length)).take (us.length-(off+A.length)):=by
    conv=>lhs;rw[← htk]
    rw[List.drop_take]
   have hl1:(us.take off).length=off:=by simp;omega
   generalize cur.toList.drop (off+A.length)=R at h2 ⊢
   rw[← h1]
   simp only[List.length_append,hl1]
   rw[List.take_append]
   simp only[List.length_append,hl1]
   rw[List.take_of_length_le (by simp only[List.length_append,hl1];omega)]
   congr 1
   rw[h2,List.length_take,Nat.add_sub_cancel_left,List.take_eq_take_iff,Nat.min_assoc,Nat.min_self]
  ·rw[hul]
   refine Dens.mono (hkp _) _ _ ?_
   exact ((hd.take' off).app (hA▸hdy.take' _)).app (hd.drop' _)
  ·intro u hu
   rcases List.mem_append.1 hu with hu|hu
   ·rcases List.mem_append.1 hu with hu|hu
    ·exact ho1 u (List.mem_of_mem_take hu)
    ·exact hone u hu
   ·exact ho1 u (List.mem_of_mem_drop hu)
theorem b7_ {P:Program} {τ:Tab} (hτ:aq_ P τ) {ds:Dn} {pn:Pn} {o:Oper} {S:St} {acc:List TI} {rest:St→List TI→Prop} {T T' E T0:TypeId} {x y:Operand} {sz1 b1:Nat} {z1:List Value} {te:TE} (ho:o.op=.call ⟨.builtin .copy,#[x,y],#[T,T']⟩) (ht:τ T=some ⟨.slice E,sz1,b1,z1⟩) (hte:τ E=some te)
  {k g off dl dc n c:Nat} {xs ys:List D} {fp:List Nat} {m:Nat} (hx:S.ev x=.d (.v (.slice (some ⟨g,off,none⟩) dl dc))) (hb:getB S.bx k=some (Ex T0 te.size g n c xs)) (hsrc:CpSrc S y fp m ys) (r:Nat) (hr:Nat.min m dl=r)
  (hys:r*te.size≤ys.length) (hof:off≤xs.length) (hfit:off+r*te.size≤c*te.size)
  (h:rest (S.app o.dst ⟨.d (.v (.int .i64 r)),[],[(k,Ex T0 te.size g n c (xs.take off++ys.take (r*te.size)++xs.drop (off+r*te.size)))],[]⟩) (⟨⟨.d (.v (.int .i64 r)),[],[(k,Ex T0 te.size g n c (xs.take off++ys.take (r*te.size)++xs.drop (off+r*te.size)))],[]⟩,k::fp⟩::acc)):vcStop P ds pn o rest S acc :=
 ⟨_,_,nu_ hτ ho ht hte hx hb hsrc r hr hys hof hfit,trivial,h⟩
/-! ### do two slices overlap? (the model answers itself) -/
theorem ha_ {P : Program} {τ : Tab} (hτ : aq_ P τ) {ds : Dn} {pn : Pn} {o : Oper} {S : St} {x y : Operand} {ts : Array TypeId} {f : FuncId} {fn : Func} {T R E : TypeId} {sz1 b1 : Nat} {z1 : List Value} {te : TE} (hfn : P.funcs[f]? = some fn) (hname : (fn.name == "runtime.NumGoroutine") = false)
  (hb:fn.body.isNone=true) (hn:Extern.findNext fn=none) (he:Extern.find fn=some (Extern.SlicesOverlaps.overlaps #[T,T] #[R])) (ho:o.op=.call ⟨.value (.func f),#[x,y],ts⟩) (ht:τ T=some ⟨.slice E,sz1,b1,z1⟩) (hte:τ E=some te) (hts:0<te.size)
  {j k:Nat} (hjk:j≠k) {T1 T2:TypeId} {sz m:Nat} {cs:List AV} {g off lb cb n c:Nat} {xs:List D} (hx:S.ev x=.row j) (hbj:getB S.bx j=some (.row T1 sz m cs)) (hm:0<m) (hy:S.ev y=.d (.v (.slice (some ⟨g,off,none⟩) lb cb))) (hbk:getB S.bx k=some (Ex T2 te.size g n c xs)) (hc:0<c) :
  LCore P ds pn o S ⟨.d (.v (.bool false)),[],[],[]⟩ [j,k]:=by
 intro S1 hs _
 have ex:=hs.1 x (by simp[ho,Op.operands,Call.operands])
 have ey:=hs.1 y (by simp[ho,Op.operands,Call.operands])
 rw[← ex] at hx
 rw[← ey] at hy
 obtain⟨d,hu,hk⟩:=(hτ T _ ht).und
 simp only[TK.ok] at hk
 subst hk
 refine Core.value fun w0 I0 F I β A w hr=>⟨_,?_,DenA_v.2 rfl⟩
 have hbj1:=(hs.2.2 j (by simp)).trans hbj
 have hbk1:=(hs.2.2 k (by simp)).trans hbk
 obtain⟨e,hnc,hcm,cur,us,hg,hcs,htk,hd,ho1⟩:=Ex.out (hr.mem.bxs k _ hbk1)
 obtain⟨vs,how,hdj,hoj⟩:=hr.mem.bxs j _ hbj1
 have h1:=hr.ev x
 have h2:=hr.ev y
 rw[hx,DenA] at h1
 rw[hy,DenA_v] at h2
 rcases how.2 with⟨_,h0⟩|⟨g',cap,cur',hyv,_,hg',hnc',hcm',hcs',htk'⟩
 ·omega
 have hne:g'≠g:=fun e'=>hjk (hr.mem.inj j k _ _ g hbj1 hbk1 (by rw[hyv,e'];exact .inl rfl) (by rw[e];exact .inl rfl))
 have hc0:cur.size≠0:=by
  rw[hcs]
  have:=Nat.mul_le_mul hc hts
  omega
 have key:=Lib.run_overlaps_apart (P:=P) w T R E hu te.size (fun w=>(hτ E te hte).size w) ⟨g',0,none⟩ ⟨g,off,none⟩ m cap lb cb hne T1 T2 cur'.size cur.size (by simp[World.shape?,hg']) (by simp[World.shape?,hg]) hc0 (by simp[World.frozen?,hg']) (by simp[World.frozen?,hg'])
 rw[lP_ ho rfl,run_callFunc_extern hfn hname hb hn he]
 have e2:(#[x,y].map A.eval) = #[A.eval x,A.eval y]:=by simp
 rw[e2,h1.1,hyv,h2,key]
 rfl
theorem fZ_ {P : Program} {τ : Tab} (hτ : aq_ P τ) {ds : Dn} {pn : Pn} {o : Oper} {S : St} {acc : List TI} {rest : St → List TI → Prop} {x y : Operand} {ts : Array TypeId} {f : FuncId} {fn : Func} {T R E : TypeId} {sz1 b1 : Nat} {z1 : List Value} {te : TE} (hfn : P.funcs[f]? = some fn) (hname : (fn.name == "runtime.NumGoroutine") = false)
  (hb:fn.body.isNone=true) (hn:Extern.findNext fn=none) (he:Extern.find fn=some (Extern.SlicesOverlaps.overlaps #[T,T] #[R])) (ho:o.op=.call ⟨.value (.func f),#[x,y],ts⟩) (ht:τ T=some ⟨.slice E,sz1,b1,z1⟩) (hte:τ E=some te) (hts:0<te.size)
  {j k:Nat} (hjk:j≠k) {T1 T2:TypeId} {sz m:Nat} {cs:List AV} {g off lb cb n c:Nat} {xs:List D} (hx:S.ev x=.row j) (hbj:getB S.bx j=some (.row T1 sz m cs)) (hm:0<m) (hy:S.ev y=.d (.v (.slice (some ⟨g,off,none⟩) lb cb))) (hbk:getB S.bx k=some (Ex T2 te.size g n c xs)) (hc:0<c)
  (h:rest (S.put o.dst (.d (.v (.bool false)))) (⟨⟨.d (.v (.bool false)),[],[],[]⟩,[j,k]⟩::acc)):vcStop P ds pn o rest S acc :=
 ⟨_,_,ha_ hτ hfn hname hb hn he ho ht hte hts hjk hx hbj hm hy hbk hc,trivial,h⟩
end Go.Xe
