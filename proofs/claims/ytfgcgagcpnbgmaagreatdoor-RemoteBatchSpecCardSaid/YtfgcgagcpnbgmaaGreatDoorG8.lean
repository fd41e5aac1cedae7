/-
  Joined texts.
-/
import Derived.Test.YtfgcgagcpnbgmaaGreatDoorG4
import Derived.RangeFuncLeaves
import Derived.RangeFuncSeq
import Derived.RangeFuncOwn
import Derived.Shelf.SlSortCmp.WholeK
import Derived.Shelf.SlSortCmp.NoneTotal
set_option linter.all false
namespace Go.Xe
open Go.RowKit
variable [Glob]
theorem ok_ {P:Program} {τ:Tab} (hτ:ay_ P τ) {ds:Dn} {pn:Pn} {o:Oper} {S:St} {T E:TypeId} {x:Operand} {sz1 b1:Nat} {z1:List Value} (ho:o.op=.call ⟨.builtin .cap,#[x],#[T]⟩) (ht:τ T=some ⟨.slice E,sz1,b1,z1⟩)
  (hx:S.ev x=.d (.v (.slice none 0 0))):LCore P ds pn o S ⟨.d (.v (.int .i64 0)),[],[],[]⟩ []:=by
 intro S1 hs hf
 have ex:=hs.1 x (by simp[ho,Op.operands,Call.operands])
 rw[← ex] at hx
 obtain⟨d,hu,hk⟩:=(hτ T _ ht).und
 simp only[TK.ok] at hk
 subst hk
 refine Core.value fun w0 I0 F I β a w hr=>⟨_,?_,DenA_v.2 rfl⟩
 have hv:=hr.ev x
 rw[hx,DenA_v] at hv
 obtain⟨C,hC⟩:=aG_ (P:=P) ho
 rw[hC]
 simp[builtin,Builtin.cap_,run_underlying hu,hv,goInt]
theorem fq_ {P:Program} {τ:Tab} (hτ:ay_ P τ) {ds:Dn} {pn:Pn} {o:Oper} {S:St} {acc:List TI} {rest:St→List TI→Prop} {T E:TypeId} {x:Operand} {sz1 b1:Nat} {z1:List Value} (ho:o.op=.call ⟨.builtin .cap,#[x],#[T]⟩) (ht:τ T=some ⟨.slice E,sz1,b1,z1⟩)
  (hx:S.ev x=.d (.v (.slice none 0 0))) (h:rest (S.app o.dst ⟨.d (.v (.int .i64 0)),[],[],[]⟩) (⟨⟨.d (.v (.int .i64 0)),[],[],[]⟩,[]⟩::acc)):vcStop P ds pn o rest S acc :=
 ⟨_,_,ok_ hτ ho ht hx,trivial,h⟩
theorem jL_ {P:Program} {τ:Tab} (hτ:ay_ P τ) {ds:Dn} {pn:Pn} {o:Oper} {S:St} {T E:TypeId} {x y:Operand} {sz1 b1:Nat} {z1:List Value} {te:TE} {k:IntKind} (ho:o.op=.slice T x none (some y) none) (ht:τ T=some ⟨.slice E,sz1,b1,z1⟩) (hte:τ E=some te)
  (hx:S.ev x=.d (.v (.slice none 0 0))) (hy:S.ev y=.d (.v (.int k 0))):LCore P ds pn o S ⟨.d (.v (.slice none 0 0)),[],[],[]⟩ []:=by
 intro S1 hs hf
 have ex:=hs.1 x (by simp[ho,Op.operands])
 have ey:=hs.1 y (by simp[ho,Op.operands])
 rw[← ex] at hx
 rw[← ey] at hy
 obtain⟨d,hu,hk⟩:=(hτ T _ ht).und
 simp only[TK.ok] at hk
 subst hk
 refine Core.value fun w0 I0 F I β a w hr=>⟨_,?_,DenA_v.2 rfl⟩
 have hv:=hr.ev x
 rw[hx,DenA_v] at hv
 have hb:=bv_ (P:=P) (isS:=true) (n:=0) (cap:=0) (lo:=none) (hi:=some y) hr rfl (h:=0) (by show sw_ (S1.ev y)=_;rw[hy];rfl) (Int.le_refl _) (Int.le_refl _) (Int.le_refl _)
 simp only[Option.map_none,Option.map_some] at hb
 simp[execOp,ho,Instr.sliceAt,Instr.slice,hv,run_underlying hu,hb,(hτ E te hte).size]
theorem h9_ {P:Program} {τ:Tab} (hτ:ay_ P τ) {ds:Dn} {pn:Pn} {o:Oper} {S:St} {acc:List TI} {rest:St→List TI→Prop} {T E:TypeId} {x y:Operand} {sz1 b1:Nat} {z1:List Value} {te:TE} {k:IntKind} (ho:o.op=.slice T x none (some y) none) (ht:τ T=some ⟨.slice E,sz1,b1,z1⟩) (hte:τ E=some te)
  (hx:S.ev x=.d (.v (.slice none 0 0))) (hy:S.ev y=.d (.v (.int k 0))) (h:rest (S.app o.dst ⟨.d (.v (.slice none 0 0)),[],[],[]⟩) (⟨⟨.d (.v (.slice none 0 0)),[],[],[]⟩,[]⟩::acc)):vcStop P ds pn o rest S acc :=
 ⟨_,_,jL_ hτ ho ht hte hx hy,trivial,h⟩
theorem lf_ {z:Array Value} {m:Nat} (h0:0<z.size) {u:Value} (h:u∈(Builtin.zeroCells z m).toList):u∈z.toList:=by
 simp only[Builtin.zeroCells,Array.toList_map,List.mem_map] at h
 obtain⟨i,_,rfl⟩:=h
 have hlt:i%z.size<z.size:=Nat.mod_lt _ h0
 rw[getElem!_pos z _ hlt]
 exact Array.mem_toList_iff.2 (Array.getElem_mem hlt)
theorem hM_ {P:Program} {τ:Tab} (hτ:ay_ P τ) {ds:Dn} {pn:Pn} {o:Oper} {S:St} {T T' E:TypeId} {x y:Operand} (ho:o.op=.call ⟨.builtin .append,#[x,y],#[T,T']⟩) {k:Nat}
  {te:TE} {kn kx:IntKind} {sz1 b1 sz2 b2:Nat} {z1 z2:List Value} (ht:τ T=some ⟨.slice E,sz1,b1,z1⟩) (ht':τ T'=some ⟨.int kn,sz2,b2,z2⟩) (hte:τ E=some te) (hts:0<te.size)
  (hx:S.ev x=.d (.v (.slice none 0 0))) {m:Nat} (hm:0<m) (hy:S.ev y=.d (.v (.int kx m))) (hbnd:m*(te.bytes+1)≤140737488355328) (hk0:S.has k=false) :
  LCore P ds pn o S ⟨.row k,[],[],[(k,.row E te.size m (List.replicate (m*te.size) (.d .any)))]⟩ []:=by
 intro S1 hs hf
 have ex:=hs.1 x (by simp[ho,Op.operands,Call.operands])
 have ey:=hs.1 y (by simp[ho,Op.operands,Call.operands])
 rw[← ex] at hx
 rw[← ey] at hy
 obtain⟨d,hu,hk⟩:=(hτ T _ ht).und
 obtain⟨d',hu',hk'⟩:=(hτ T' _ ht').und
 simp only[TK.ok] at hk hk'
 subst hk;subst hk'
 obtain⟨i,z,hi,his,hib,hiz,hzc,hzl',hz1⟩:=(hτ E te hte).info
 have hk0:S1.has k=false:=hf _ (List.mem_singleton.2 rfl)
 have hk1:=aK_ hk0
 have hmax:m≤9223372036854775807:=by
  have:m≤m*(te.bytes+1):=Nat.le_mul_of_pos_right _ (by omega)
  omega
 have hbyt:m*te.bytes≤140737488355328:=Nat.le_trans (Nat.mul_le_mul_left _ (by omega)) hbnd
 have hzs:z.cells.size=te.size:=by rw[← Array.length_toList,hzc];exact hzl'
 refine Core.world fun w0 I0 F I β a w hr=>?_
 have hv:=hr.ev x
 have hvy:=hr.ev y
 rw[hx,DenA_v] at hv
 rw[hy,DenA_v] at hvy
 have hrun:=Lib.run_append_nil_zeros (P:=P) w T T' o.type E i z kx kn hu hu' hi hiz m hm (by omega) (by omega) (by rw[hib];omega)
 have hge:=grownCap_ge w m 0 E
 have hcm:grownCap w m 0 E≤maxLen:=grownCap_le_maxLen w m 0 E (by simp only[maxLen];omega)
 refine⟨.slice (some ⟨w.heap.size,0,none⟩) m (grownCap w m 0 E),w.drew.alloc (.cells (Builtin.zeroCells z.cells m++Builtin.zeroCells z.cells (grownCap w m 0 E-m)) E),I,upd β k (.slice (some ⟨w.heap.size,0,none⟩) m (grownCap w m 0 E)),?_,hr.appended (v:=.slice none 0 0) hk0 (l:=[]) (us:=(Builtin.zeroCells z.cells m).toList) (bO_ w (Gb.alloc w.drew _ none)) (.inr fun g hg=>by simp[Value.ownBlock] at hg;omega) ⟨_,_,_,rfl⟩ (.inl rfl) ⟨by simp[size_zeroCells,hzs],.inr ⟨w.heap.size,_,_,rfl,Nat.zero_le _,heap_alloc_new w.drew _,hge,hcm,?_,?_⟩⟩ ?_ ?_ ?_ o.dst⟩
 ·obtain⟨C,hC⟩:=aG_ (P:=P) ho;rw[hC];simp[builtin,hv,hvy,hrun]
 ·simp only[Array.size_append,size_zeroCells,hzs]
  rw[← Nat.add_mul];congr 1;omega
 ·simp only[Array.toList_append]
  have:(Builtin.zeroCells z.cells m).toList.length=m*te.size:=by simp[size_zeroCells,hzs]
  rw[← this];exact List.take_left
 ·have h:∀ (us:List Value),DenAs w I β (List.replicate us.length (.d .any)) us:=fun us=>by
   induction us with
   | nil=>rfl
   | cons u us ih=>exact⟨u,us,rfl,bL_ _ _ _ _,ih⟩
  have:=h (Builtin.zeroCells z.cells m).toList
  rwa[show (Builtin.zeroCells z.cells m).toList.length=m*te.size by simp[size_zeroCells,hzs]] at this
 ·intro u hu
  have:=lf_ (by rw[hzs];exact hts) hu
  rw[hzc] at this
  exact List.all_eq_true.1 hz1 u this
 ·have h6:∀ q:Nat,am_ k (List.replicate q (.d .any))=false:=fun q=>by
   induction q with
   | zero=>rfl
   | succ q ih=>rw[List.replicate_succ,am_,ih];rfl
  exact h6 _
theorem f9_ {P:Program} {τ:Tab} (hτ:ay_ P τ) {ds:Dn} {pn:Pn} {o:Oper} {S:St} {acc:List TI} {rest:St→List TI→Prop} {T T' E:TypeId} {x y:Operand} (ho:o.op=.call ⟨.builtin .append,#[x,y],#[T,T']⟩) {k:Nat}
  {te:TE} {kn kx:IntKind} {sz1 b1 sz2 b2:Nat} {z1 z2:List Value} (ht:τ T=some ⟨.slice E,sz1,b1,z1⟩) (ht':τ T'=some ⟨.int kn,sz2,b2,z2⟩) (hte:τ E=some te) (hts:0<te.size)
  (hx:S.ev x=.d (.v (.slice none 0 0))) {m:Nat} (hm:0<m) (hy:S.ev y=.d (.v (.int kx m))) (hbnd:m*(te.bytes+1)≤140737488355328) (hk0:S.has k=false)
  (h:rest (S.app o.dst ⟨.row k,[],[],[(k,.row E te.size m (List.replicate (m*te.size) (.d .any)))]⟩) (⟨⟨.row k,[],[],[(k,.row E te.size m (List.replicate (m*te.size) (.d .any)))]⟩,[]⟩::acc)):vcStop P ds pn o rest S acc :=
 ⟨_,_,hM_ hτ ho ht ht' hte hts hx hm hy hbnd hk0,⟨hk0,trivial⟩,h⟩
theorem jK_ {P:Program} {τ:Tab} (hτ:ay_ P τ) {ds:Dn} {pn:Pn} {o:Oper} {S:St} {T E:TypeId} {x y:Operand} {sz1 b1:Nat} {z1:List Value} {te:TE} {kx:IntKind} (ho:o.op=.slice T x none (some y) none) (ht:τ T=some ⟨.slice E,sz1,b1,z1⟩) (hte:τ E=some te)
  {j k:Nat} (hx:S.ev x=.row j) {n:Nat} {cs:List AV} (hb:getB S.bx j=some (.row E te.size n cs)) (hn:0<n) {m:Nat} (hm:m≤n) (hy:S.ev y=.d (.v (.int kx m))) (hk0:S.has k=false) :
  LCore P ds pn o S ⟨.row k,[j],[],[(k,.row E te.size m (cs.take (m*te.size)))]⟩ [j]:=by
 intro S1 hs hf
 have ex:=hs.1 x (by simp[ho,Op.operands])
 have ey:=hs.1 y (by simp[ho,Op.operands])
 rw[← ex] at hx
 rw[← ey] at hy
 obtain⟨d,hu,hk⟩:=(hτ T _ ht).und
 simp only[TK.ok] at hk
 subst hk
 have hk0:S1.has k=false:=hf _ (List.mem_singleton.2 rfl)
 have hk1:=aK_ hk0
 have hb1:=(hs.2.2 j (by simp)).trans hb
 refine Core.world fun w0 I0 F I β a w hr=>?_
 obtain⟨xs,how,hdx,hox⟩:=hr.mem.bxs j _ hb1
 have hv:=hr.ev x
 rw[hx,DenA] at hv
 obtain⟨hl,how2⟩:=how
 rcases how2 with⟨_,h0⟩|⟨g,cap,cur,hyv,hz0,hg,hnc,hcm,hcs,htk⟩
 ·omega
 have hbd:=bv_ (P:=P) (isS:=true) (n:=n) (cap:=cap) (lo:=none) (hi:=some y) hr rfl (h:=m) (by show sw_ (S1.ev y)=_;rw[hy];rfl) (Int.le_refl _) (by omega) (by omega)
 simp only[Option.map_none,Option.map_some] at hbd
 have hown:w.ownsRow 0 E te.size (β j) n xs:=⟨hl,.inr ⟨g,cap,cur,hyv,hz0,hg,hnc,hcm,hcs,htk⟩⟩
 have hxe:a.eval x=.slice (some ⟨g,0,none⟩) n cap:=by rw[hv.1];exact hyv
 refine⟨.slice (some ⟨g,0,none⟩) m cap,w,I,upd β k (.slice (some ⟨g,0,none⟩) m cap),?_,hr.appended (v:=β j) hk0 (us:=xs.take (m*te.size)) ⟨⟨rfl,rfl,rfl,Nat.le_refl _,fun _ _ _=>rfl⟩,Nat.le_refl _⟩ (.inl (by rw[hyv];rfl)) ⟨_,_,_,rfl⟩ (.inr ⟨j,_,rfl,hb1,rfl,i0_ hown⟩) ⟨?_,.inr ⟨g,cap,cur,rfl,hz0,hg,by omega,hcm,hcs,?_⟩⟩ (hdx.take _) (fun u hu=>hox u (List.mem_of_mem_take hu)) ?_ o.dst⟩
 ·simp[execOp,ho,Instr.sliceAt,Instr.slice,hxe,run_underlying hu,hbd,(hτ E te hte).size]
  intro _;simp[Addr.add_lit]
 ·rw[List.length_take,hl];exact Nat.min_eq_left (Nat.mul_le_mul_right _ hm)
 ·rw[← htk,List.take_take,Nat.min_eq_left (Nat.mul_le_mul_right _ hm)]
 ·have h5:=(hasB_get hk1.2).2 j _ hb1
  simp only[Box.cs] at h5
  have h6:∀ (q:Nat) (l:List AV),am_ k l=false→am_ k (l.take q)=false:=fun q=>by
   induction q with
   | zero=>intro l _;simp[am_]
   | succ q ih =>
    intro l h
    cases l with
    | nil=>rfl
    | cons c l =>
     rw[am_,Bool.or_eq_false_iff] at h
     rw[List.take_succ_cons,am_,h.1,ih l h.2];rfl
  exact h6 _ _ h5
theorem h8_ {P:Program} {τ:Tab} (hτ:ay_ P τ) {ds:Dn} {pn:Pn} {o:Oper} {S:St} {acc:List TI} {rest:St→List TI→Prop} {T E:TypeId} {x y:Operand} {sz1 b1:Nat} {z1:List Value} {te:TE} {kx:IntKind} (ho:o.op=.slice T x none (some y) none) (ht:τ T=some ⟨.slice E,sz1,b1,z1⟩) (hte:τ E=some te)
  {j k:Nat} (hx:S.ev x=.row j) {n:Nat} {cs:List AV} (hb:getB S.bx j=some (.row E te.size n cs)) (hn:0<n) {m:Nat} (hm:m≤n) (hy:S.ev y=.d (.v (.int kx m))) (hk0:S.has k=false)
  (h:rest (S.app o.dst ⟨.row k,[j],[],[(k,.row E te.size m (cs.take (m*te.size)))]⟩) (⟨⟨.row k,[j],[],[(k,.row E te.size m (cs.take (m*te.size)))]⟩,[j]⟩::acc)):vcStop P ds pn o rest S acc :=
 ⟨_,_,jK_ hτ ho ht hte hx hb hn hm hy hk0,⟨hk0,trivial⟩,h⟩
end Go.Xe
namespace Go.Xe
open Go.RowKit
variable [Glob]
theorem lU_ {vs:List Value} {n:Nat}:Blk (.tuple vs.toArray) n↔∃ v∈vs,blk v=some n:=by
 constructor
 ·rintro (h|⟨us,e,v,hv,h⟩)
  ·cases h
  ·cases e;exact⟨v,by simpa using hv,h⟩
 ·rintro⟨v,hv,h⟩
  exact .inr ⟨_,rfl,v,by simpa using hv,h⟩
def YieldOk (P:Program) (l:Nat) (xs:List D) (p p':Value→World→(Nat→Prop)→Prop) (b:Bool):Prop :=
 ∀ (ro:Option Nat) w I β vs,Mem w I (Fp [(1999,.opq p)] β) [(1999,.opq p)] I β w→Dens w I xs vs →
  YieldAt (fO ro) 0 P l vs.toArray w fun e w'=>e=.returned (.bool b)∧∃ I' y,Mem w I (Fp [(1999,.opq p)] β) [(0,.opq p')] I' (upd β 0 y) w'
theorem run_yieldCall {P:Program} {o:Oper} {a:Act} {w:World} {fx:Operand} {args:Array Operand} {ts:Array TypeId} (ho:o.op=.call ⟨.value fx,args,ts⟩) {l:Nat} (hf:a.eval fx=.func (.yield l) #[] #[])
  {fn:FuncId} {tmps:Array Value} {assign body:Code} (h:(Instr.yield l (args.map a.eval)).run P w=.ok (.round l fn tmps assign body) w):(execOp a.eval o).run P w=.ok (.round l fn tmps assign body) w:=by
 simp only[execOp,ho,resolve,hf,Deferred.ofValue,Sem.run_bind,Sem.run_pure,Result.andThen_ok,invoke,Array.append_empty,Array.empty_append,h]
theorem LCore.yield {P:Program} {ds:Dn} {pn:Pn} {o:Oper} {S:St} {fx:Operand} {args:Array Operand} {ts:Array TypeId} (ho:o.op=.call ⟨.value fx,args,ts⟩) {l:Nat}
  (hf:S.ev fx=.d (.v (.func (.yield l) #[] #[]))) {xs:List D} {p p':Value→World→(Nat→Prop)→Prop} {b:Bool} (hy:YieldOk P l xs p p' b) (ρ:Nat→Nat)
  (hargs:LeqL (args.toList.map S.ev) (xs.map .d)) (hok:CallOk S ρ [(1999,.opq p)] [(0,.opq p')] (.d (.v (.bool b)))) :
  LCore P ds pn o S (callE ρ [(1999,.opq p)] [(0,.opq p')] (.d (.v (.bool b)))) [ρ 1999]:=by
 intro S1 hs hfresh w0 I0 F I β a w hr next Q hn hp
 have efx:S1.ev fx=S.ev fx:=hs.1 fx (by simp[ho,Op.operands,Call.operands])
 have eargs:args.toList.map S.ev=args.toList.map S1.ev:=List.map_congr_left fun x hx=>(hs.1 x (by simp[ho,Op.operands,Call.operands];exact .inr (by simpa using hx))).symm
 rw[← efx] at hf
 rw[eargs] at hargs
 have e1:=hr.ev fx
 rw[hf,DenA_v] at e1
 have hda:DenAs w I β (xs.map .d) (args.toList.map a.eval):=hargs.ok (eq_ hr _)
 have hok1:=hok.same (S1:=S1) hs.2.2
 have hm0:=hr.handed hok1
 obtain⟨fn,tmps,assign,body,hrun,hround⟩:=hy ds.ro w I (fun k=>β (ρ k)) _ hm0 hda.to_dens
 refine⟨fun _ _=>trivial,?_⟩
 have hrun':(Instr.yield l (args.map a.eval)).run P w=.ok (.round l fn tmps assign body) w:=by
  have:(args.toList.map a.eval).toArray=args.map a.eval:=by apply Array.ext';simp
  rw[← this];exact hrun
 rw[Oper.semAt_eq _ _ _ (fun c h=>by rw[ho] at h;cases h),run_yieldCall ho e1 hrun',Oper.uponIn_round]
 refine⟨(fun h=>by cases h),hround.mono fun e w' he=>?_⟩
 obtain⟨rfl,I',y,hm⟩:=he
 obtain⟨β2,h2⟩:=hr.called hok1 hfresh (v:=.bool b) hm (by rw[DenA_v]) (fun k hk=>upd_other _ _ (by omega)) o.dst
 exact hn I' β2 _ w' h2
theorem vcStop.yield {P:Program} {ds:Dn} {pn:Pn} {o:Oper} {S:St} {acc:List TI} {rest:St→List TI→Prop} {fx:Operand} {args:Array Operand} {ts:Array TypeId} {l:Nat} {xs:List D}
  {p p':Value→World→(Nat→Prop)→Prop} {b:Bool} (hy:YieldOk P l xs p p' b) (k k':Nat) (ho:o.op=.call ⟨.value fx,args,ts⟩) (hf:S.ev fx=.d (.v (.func (.yield l) #[] #[])))
  (hargs:(args.toList.map S.ev).map norm=xs.map .d) (hk:getB S.bx k=some (.opq p)) (hne:k≠k') (hfr:S.has k'=false)
  (h:rest (S.app o.dst ⟨.d (.v (.bool b)),[k],[],[(k',.opq p')]⟩) (⟨⟨.d (.v (.bool b)),[k],[],[(k',.opq p')]⟩,[k]⟩::acc)):vcStop P ds pn o rest S acc:=by
 have hL:=LCore.yield (ds:=ds) (pn:=pn) ho hf hy (fun t=>if t=1999 then k else if t=0 then k' else 5000+t) (by have:=hZ_ (args.toList.map S.ev);rwa[hargs] at this)
  ⟨by simp,by simp;exact⟨_,hk,rfl⟩,by simp[getB],fun i j hi hj e=>?_,by simp[a7_,Box.cs,aC_]⟩
 ·have e:callE (fun t=>if t=1999 then k else if t=0 then k' else 5000+t) [(1999,.opq p)] [(0,.opq p')] (.d (.v (.bool b)))=⟨.d (.v (.bool b)),[k],[],[(k',.opq p')]⟩:=rfl
  rw[e] at hL
  exact⟨_,_,hL,⟨hfr,trivial⟩,h⟩
 ·have l:∀ i,(isIn [(1999,Box.opq p)] i=true∨isIn [(0,Box.opq p')] i=true)→i=1999∨i=0:=fun i h=>by
   rcases h with h|h<;>simp only[isIn,getB] at h<;>split at h<;>first|omega|cases h
  rcases l i hi with rfl|rfl<;>rcases l j hj with rfl|rfl<;>simp at e ⊢
  ·exact hne e
  ·exact hne e.symm
def re_ (P:Program) (gf:FuncId) (caps:List AV) (cb:Bxs) (xs:Nat→List D) (goes:Nat→Bool) (m:Nat):Prop :=
 ∀ (l:Nat) (B:Nat→Value→World→(Nat→Prop)→Prop),(∀ i,i<m→YieldOk P l (xs i) (B i) (B (i+1)) (goes i)) →
  Fun P gf (.d (.v (.func (.yield l) #[] #[]))::caps) (cb++[(1999,.opq (B 0))]) (.tup []) (cb++[(0,.opq (B m))]) fun _=>False
def d3_ (bx bo:Bxs):List Nat→List Nat→Prop
 | [],[]=>True
 | D::df,k::ks=>getB bx k=some (.obj D (.deferred (some [])))∧getB bo k=none∧k∉ks∧d3_ bx bo df ks
 | _,_=>False
theorem eZ_ {bx bo:Bxs} {k:Nat}:∀ {df ks:List Nat},k∉ks→d3_ bx bo df ks→d3_ (delB bx k) bo df ks
 | [],[],_,_=>trivial
 | D::df,j::ks,hk,⟨h1,h2,h3,h4⟩=>⟨by rw[getB_del,if_neg (fun e=>hk (by simp[e]))];exact h1,h2,h3,eZ_ (fun h=>hk (by simp[h])) h4⟩
 | [],_::_,_,h=>h.elim
 | _::_,[],_,h=>h.elim
def finQR (τ:Tab) (rs:List ResultVar) (res:AV) (bo:Bxs) (e:Exit) (S:Kp2 (τ,rs) (res,bo)):Prop :=
 (e=.normal∨e=.ret)∧∃ S',Wk S S'∧r6_ τ rs res bo S'∧∃ ks,d3_ S'.bx bo S'.df ks
theorem hS_ {τ:Tab} {S:St} {k:Nat} {D:Nat} {o:Obj} (hk:getB S.bx k=some (.obj D o)):∀ (rs:List ResultVar),jE_ τ ⟨S.sl,delB S.bx k,[]⟩ rs=jE_ τ S rs
 | []=>rfl
 | .tmp t::rs=>by unfold jE_;rw[hS_ hk rs];rfl
 | .cell t T::rs=>by
  unfold jE_
  rw[hS_ hk rs]
  show _=((τ T).bind fun te=>match S.at t with
   | .ptr k off=>match getB S.bx k with
    | some (.cells _ cs)=>(jE_ τ S rs).map fun q=>(dn_ te off cs.length∧q.1,gk_ te off cs::q.2)
    | _=>none
   | _=>none)
  show ((τ T).bind fun te=>match S.at t with
   | .ptr j off=>match getB (delB S.bx k) j with
    | some (.cells _ cs)=>(jE_ τ S rs).map fun q=>(dn_ te off cs.length∧q.1,gk_ te off cs::q.2)
    | _=>none
   | _=>none)=_
  congr 1
  funext te
  cases S.at t<;>try rfl
  rename_i j off
  simp only[getB_del]
  by_cases h:k=j
  ·subst h;rw[if_pos rfl,hk]
  ·rw[if_neg h]
theorem resA_df {τ:Tab} {S:St} {d e:List Nat}:∀ (rs:List ResultVar),jE_ τ ⟨S.sl,S.bx,d⟩ rs=jE_ τ ⟨S.sl,S.bx,e⟩ rs
 | []=>rfl
 | .tmp t::rs=>by unfold jE_;rw[resA_df rs];rfl
 | .cell t T::rs=>by unfold jE_;rw[resA_df rs];rfl
theorem gU_ {P:Program} {τ:Tab} (hτ:ay_ P τ) {fn:Func} {res:AV} {bo:Bxs} {w:World} {I F:Nat→Prop} {β:Nat→Value} {a':Act} {dn:Dn}:∀ (df ks:List Nat) (S':St) (I':Nat→Prop) (β':Nat→Value) (w':World),S'.df=[]→dn.β0=β →
  Rel dn w I F S' I' β' a' w'→d3_ S'.bx bo df ks→r6_ τ fn.results.toList res bo S' →
  LeavesInM Fence.wide 1 P fn a'.tmps (fun
     | .returned v,w'=>∃ I' β',Mem w I F bo I' β' w'∧DenA w' I' β' res v∧∀ k,1000≤k→β' k=β k
     | .panicked ch,w'=>False∧∃ I' β',Mem w I F [] I' β' w'
     | .outgrown,_=>False) (df.map ka_) .returning w'
 | [],[],S',I',β',w',hdf,hβ,hr,_,⟨side,l,hl,hs,hle,hbo⟩=>by
  obtain⟨us,hus,hdu⟩:=dW_ hτ hr _ hl hs
  exact⟨_,cr_ fn a'.tmps P w' us hus,I',β',hr.mem.sub hbo,hle _ _ _ _ hdu.one,fun k hk=>by rw[← hβ];exact hr.fx k hk⟩
 | D::df,k::ks,S',I',β',w',hdf,hβ,hr,⟨hk,hkb,hkn,hm⟩,⟨side,l,hl,hs,hle,hbo⟩=>by
  obtain⟨hy,hD⟩:=hr.mem.bxs k _ hk
  have hDlt:D<w'.heap.size:=(Array.getElem?_eq_some_iff.1 hD).1
  refine⟨fun e=>(by cases e),.inl ⟨D,w'.putObj D (.deferred none),rfl,run_takeDeferred hD,?_⟩⟩
  have hblk:blk (β' k)=some D:=by rw[hy];rfl
  have hm2:Mem w I F (delB S'.bx k) I' β' (w'.putObj D (.deferred none)):=by
   refine hr.mem.world (r:=some D) ⟨grownBy_putObj' w' D _,Nat.le_refl _⟩ (fun n e=>by cases e;exact hr.mem.sep k _ D hk (.inl hblk)) fun j b hj=>?_
   rw[getB_del] at hj
   split at hj
   ·cases hj
   ·rename_i hne
    refine⟨hj,.inr fun n e hn=>hne ?_⟩
    cases e
    exact hr.mem.inj k j _ b D hk hj (.inl hblk) hn
  have hkp:Kept w' I' (w'.putObj D (.deferred none)) I':=⟨fun _ h=>h,fun n hn=>World.putObj_heap_other fun e=>(hr.mem.sep k _ D hk (.inl hblk)).1 (e▸hn)⟩
  have hr2:Rel dn w I F ⟨S'.sl,delB S'.bx k,[]⟩ I' β' a' (w'.putObj D (.deferred none)):=⟨hm2,DenAs.mono hkp _ _ (fun _ _=>rfl) hr.sl,by have:=hr.dn;rw[hdf] at this;exact this,hr.fx⟩
  refine gU_ hτ df ks ⟨S'.sl,delB S'.bx k,[]⟩ I' β' _ rfl hβ hr2 (eZ_ hkn hm) ⟨side,l,(hS_ hk _).trans hl,hs,hle,fun j b hj=>?_⟩
  show getB (delB S'.bx k) j=_
  rw[getB_del]
  split
  ·rename_i e;subst e;rw[hkb] at hj;cases hj
  ·exact hbo j b hj
 | [],_::_,_,_,_,_,_,_,_,h,_=>h.elim
 | _::_,[],_,_,_,_,_,_,_,h,_=>h.elim
theorem kr_ {P:Program} {τ:Tab} (hτ:ay_ P τ) {f:FuncId} {fn:Func} {c:Code} (hf:P.funcs[f]? = some fn) (hb:fn.body=some c) {args:List AV} {bi:Bxs} {res:AV} {bo:Bxs}
  (h:∀ β0,WP P ⟨[],β0,none,true⟩ an_ c (finQR τ fn.results.toList res bo) (dU_ fn.ntmps args bi)):Fun P f args bi res bo fun _=>False:=by
 intro w I β vs hm hd
 refine callsIn_wide (n:=1).1 (callsIn_of_wp_marks hf hb trivial (wpIn_mono (h β w I (Fp bi β) I β _ w ⟨hm,?_,⟨rfl,fun h=>by cases h⟩,fun _ _=>rfl⟩) fun e a' w' hh=>?_))
 ·simp only[dU_,Array.toList_append,Array.toList_replicate]
  rw[hd.length]
  have:=cu_ (w:=w) (I:=I) (β:=β) (List.replicate (fn.ntmps-vs.length) undef)
  simp only[List.length_replicate] at this
  exact hd.append (by simpa using this)
 ·have fin:(∃ S I' β',(∃ S',Wk S S'∧r6_ τ fn.results.toList res bo S'∧∃ ks,d3_ S'.bx bo S'.df ks)∧Rel ⟨[],β,none,true⟩ w I (Fp bi β) S I' β' a' w') →
    LeavesInM Fence.wide 1 P fn a'.tmps (fun
     | .returned v,w'=>∃ I' β',Mem w I (Fp bi β) bo I' β' w'∧DenA w' I' β' res v∧∀ k,1000≤k→β' k=β k
     | .panicked ch,w'=>False∧∃ I' β',Mem w I (Fp bi β) [] I' β' w'
     | .outgrown,_=>False) a'.defers .returning w':=by
   rintro⟨S,I1,β1,⟨S',hw,⟨side,l,hl,hs,hle,hbo⟩,ks,hks⟩,hr1⟩
   obtain⟨I',β',hr⟩:=hw _ _ _ _ _ _ _ _ hr1
   have hdn:=hr.dn.1
   simp only[List.append_nil] at hdn
   rw[hdn]
   refine gU_ hτ S'.df ks ⟨S'.sl,S'.bx,[]⟩ I' β' w' (dn:=⟨a'.defers,β,none,true⟩) rfl rfl ⟨hr.mem,hr.sl,⟨rfl,fun h=>by cases h⟩,hr.fx⟩ hks ⟨side,l,(resA_df _).trans hl,hs,hle,hbo⟩
  cases e with
  | normal=>obtain⟨S,I',β',hq,hrr⟩:=hh;exact fin ⟨S,I',β',hq.2,hrr⟩
  | ret=>obtain⟨S,I',β',hq,hrr⟩:=hh;exact fin ⟨S,I',β',hq.2,hrr⟩
  | panic ch=>exact hh.1.elim
  | exit id=>obtain⟨S,I',β',hq,_⟩:=hh;rcases hq.1 with h|h<;>cases h
  | goto l=>obtain⟨S,I',β',hq,_⟩:=hh;rcases hq.1 with h|h<;>cases h
  | outgrown=>exact hh.elim
end Go.Xe
namespace Go.Xe
open Go.RowKit
variable [Glob]
def u3_ (γ:Nat→Value) (bx:Bxs) (D L:Nat):List Value:=(bx.map fun p=>γ p.1)++[Value.pointer (some ⟨D,0,none⟩),Value.pointer (some ⟨L,0,none⟩)]
def fZ_ (γ:Nat→Value) (bx:Bxs) (D L:Nat):Value:=.tuple (u3_ γ bx D L).toArray
structure Pack (β0:Nat→Value) (D L:Nat) (sl0:List AV) (bx:Bxs) (rec:Loop) (y:Value) (w:World) (I:Nat→Prop) (γ:Nat→Value):Prop where
 fx:∀ k,1000≤k→γ k=β0 k
 y:y=fZ_ γ bx D L
 bxs:∀ k b,getB bx k=some b→BoxRel w I γ (γ k) b
 inj:∀ k j b c n,getB bx k=some b→getB bx j=some c→Blk (γ k) n→Blk (γ j) n→k=j
 ap:∀ k b n,getB bx k=some b→Blk (γ k) n→n≠D∧n≠L
 ne:D≠L
 hD:w.heap[D]? = some (.deferred (some []))
 hL:w.heap[L]? = some (.loop rec)
 sl:DenAs w I γ sl0 rec.tmps.toList
def da_ (β0:Nat→Value) (D L:Nat) (sl0:List AV) (bx:Bxs) (rec:Loop) (y:Value) (w:World) (I:Nat→Prop):Prop:=∃ γ,Pack β0 D L sl0 bx rec y w I γ
def bW_ (bx:Bxs):Prop:=∀ k b,getB bx k=some b→b.single=true
theorem wv_ {bx:Bxs} {p:Nat×Box} (h:p∈bx):∃ b,getB bx p.1=some b:=by
 induction bx with
 | nil=>cases h
 | cons q r ih =>
  obtain⟨k,b⟩:=q
  simp only[getB]
  split
  ·exact⟨_,rfl⟩
  ·rename_i hne
   rcases List.mem_cons.1 h with rfl|h
   ·exact absurd rfl hne
   ·exact ih h
section
variable {β0:Nat→Value} {D L:Nat} {sl0:List AV} {bx:Bxs} {rec:Loop} {y:Value} {w w':World} {I I':Nat→Prop} {γ:Nat→Value}
theorem Pack.blk (h:Pack β0 D L sl0 bx rec y w I γ) (hs:bW_ bx) (n:Nat):Blk y n↔(∃ k b,getB bx k=some b∧Blk (γ k) n)∨n=D∨n=L:=by
 rw[h.y,fZ_,lU_,u3_]
 constructor
 ·rintro⟨v,hv,hn⟩
  simp only[List.mem_append,List.mem_map,List.mem_cons,List.not_mem_nil,or_false] at hv
  rcases hv with⟨p,hp,rfl⟩|rfl|rfl
  ·obtain⟨b,hb⟩:=wv_ hp
   exact .inl ⟨p.1,b,hb,.inl hn⟩
  ·simp only[Go.Xe.blk,Option.some.injEq] at hn;exact .inr (.inl hn.symm)
  ·simp only[Go.Xe.blk,Option.some.injEq] at hn;exact .inr (.inr hn.symm)
 ·rintro (⟨k,b,hb,hn⟩|rfl|rfl)
  ·exact⟨γ k,by simp only[List.mem_append,List.mem_map];exact .inl ⟨(k,b),aE_ hb,rfl⟩,(h.bxs k b hb).blk (hs k b hb) hn⟩
  ·exact⟨.pointer (some ⟨n,0,none⟩),by simp,rfl⟩
  ·exact⟨.pointer (some ⟨n,0,none⟩),by simp,rfl⟩
theorem Pack.mono (h:Pack β0 D L sl0 bx rec y w I γ) (hs:bW_ bx) (hk:Kept w I w' I') (hb:∀ n,Blk y n→w'.heap[n]? = w.heap[n]?):Pack β0 D L sl0 bx rec y w' I' γ :=
 ⟨h.fx,h.y,fun k b hkb=>(h.bxs k b hkb).mono hk (fun _ _=>rfl) (fun n hn=>hb n ((h.blk hs n).2 (.inl ⟨k,b,hkb,hn⟩))),h.inj,h.ap,h.ne,(hb D ((h.blk hs D).2 (.inr (.inl rfl)))).trans h.hD,
  (hb L ((h.blk hs L).2 (.inr (.inr rfl)))).trans h.hL,DenAs.mono hk _ _ (fun _ _=>rfl) h.sl⟩
theorem oe_ {β:Nat→Value} (h:BoxRel w I β y (.opq (da_ β0 D L sl0 bx rec))) (hs:bW_ bx):∃ γ,Pack β0 D L sl0 bx rec y w I γ:=by
 obtain⟨w1,I1,⟨γ,hp⟩,hk,hb⟩:=h
 exact⟨γ,hp.mono hs hk fun n hn=>(hb n hn).2⟩
theorem Pack.lt (h:Pack β0 D L sl0 bx rec y w I γ) (hs:bW_ bx) {n:Nat} (hn:Blk y n):n<w.heap.size:=by
 rcases (h.blk hs n).1 hn with⟨k,b,hb,hn⟩|rfl|rfl
 ·exact (h.bxs k b hb).lt hn
 ·exact (Array.getElem?_eq_some_iff.1 h.hD).1
 ·exact (Array.getElem?_eq_some_iff.1 h.hL).1
theorem Pack.box {β:Nat→Value} (h:Pack β0 D L sl0 bx rec y w I γ) (hs:bW_ bx):BoxRel w I β y (.opq (da_ β0 D L sl0 bx rec)) :=
 ⟨w,I,⟨γ,h⟩,.refl w I,fun _ hn=>⟨h.lt hs hn,rfl⟩⟩
end
theorem Fp.one {k:Nat} {b:Box} {β:Nat→Value} {n:Nat}:Fp [(k,b)] β n↔Blk (β k) n:=by
 constructor
 ·rintro⟨j,c,h,hn⟩
  simp only[getB] at h
  split at h
  ·rename_i e;subst e;exact hn
  ·cases h
 ·intro h;exact⟨k,b,by simp[getB],h⟩
theorem Mem.wide {w0:World} {I0 F F':Nat→Prop} {bx:Bxs} {I:Nat→Prop} {β:Nat→Value} {w:World} (h:Mem w0 I0 F bx I β w) (hF:∀ n,F n→F' n):Mem w0 I0 F' bx I β w :=
 ⟨h.bxs,fun k b n hk hn=>⟨(h.sep k b n hk hn).1,(h.sep k b n hk hn).2.imp (hF n) id⟩,h.inj,h.im,fun n hn=>(h.inew n hn).imp id (Or.imp (hF n) id),h.kept,fun n hn hf=>h.fr n hn fun h=>hf (hF n h),h.sz,h.os,h.tape,h.out,h.dr,h.gl⟩
def setP:List AV→List Tmp→List AV→List AV
 | sl,p::ps,x::xs=>setP (sl.set p x) ps xs
 | sl,_,_=>sl
theorem DenAs.setP {w:World} {I:Nat→Prop} {β:Nat→Value}:∀ (ps:List Tmp) {xs:List AV} {vs:List Value} {sl:List AV} {t:Array Value},DenAs w I β sl t.toList→DenAs w I β xs vs →
  DenAs w I β (Go.Xe.setP sl ps xs) ((ps.zip vs).foldl (fun t (p,v)=>t.setIfInBounds p v) t).toList
 | [],_,_,_,_,h,_=>by simpa [Go.Xe.setP] using h
 | p::ps,[],vs,sl,t,h,hx=>by rw[DenAs] at hx;subst hx;simpa [Go.Xe.setP] using h
 | p::ps,x::xs,_,sl,t,h,hx=>by
  obtain⟨v,vs',rfl,h1,h2⟩:=hx
  rw[Go.Xe.setP,List.zip_cons_cons,List.foldl_cons]
  refine DenAs.setP ps ?_ h2
  have:=DenAs.set h1 h p
  simpa only[Array.toList_setIfInBounds] using this
def asQ (P:Program) (ds:Dn) (pn:Pn) (y:Code) (Q:Exit→St→Prop) (e:Exit) (S:Kp2 (P,ds,pn) (y,Q)):Prop :=
 match e with
 | .normal=>WP P ds pn y Q S
 | _=>False
@[simp] theorem An_ {P:Program} {ds:Dn} {pn:Pn} {y:Code} {Q:Exit→St→Prop} {S:St}:asQ P ds pn y Q .normal S=WP P ds pn y Q S:=rfl
def Cd_:Exit→Option (Option Code)
 | .normal=>some none
 | .ret=>some (some .ret)
 | .exit id=>some (some (.exit id))
 | .goto t=>some (some (.goto t))
 | _=>none
def rdQ (jump:Option Code) (bx:Bxs) (e:Exit) (S:Kp2 jump bx):Prop:=Cd_ e=some jump∧∃ S',Wk S S'∧∀ k b,getB bx k=some b→getB S'.bx k=some b
theorem rdQ.mk {bx:Bxs} {e:Exit} {S S':St} {jump:Option Code} (he:Cd_ e=some jump) (hw:Wk S S') (hb:oH_ S'.bx bx):rdQ jump bx e S:=⟨he,S',hw,subB_ok hb⟩
theorem l0_ {ro:Option Nat} {P:Program} {c:Code} {Q:Exit→Act→World→Prop} {a:Act} {w:World} (h:c.wpIn (fO ro) 1 P Q a w):c.wpIn (fO ro) 0 P Q a w :=
 fun b k cs hro hb _=>h b k cs hro hb (fun d hd=>by cases ro<;>cases hd)
theorem hL_ {P:Program} {D L:Nat} {β0:Nat→Value} {sl0:List AV} {bx bx':Bxs} {rec:Loop} {xs:List Go.Xe.D} {jump:Option Code} (hrec:rec.state=.ready) (hps:xs.length=rec.params.size)
  (htg:∀ t,am_ t sl0=true→1000≤t) (hs:bW_ bx) (hs':bW_ bx')
  (hw:WP P ⟨[],β0,some L,false⟩ an_ rec.assign (asQ P ⟨[],β0,some L,false⟩ an_ rec.body (rdQ jump bx')) ⟨setP sl0 rec.params.toList (xs.map .d),bx,[]⟩) :
  YieldOk P L xs (da_ β0 D L sl0 bx rec) (da_ β0 D L sl0 bx' { rec with state:=if jump.isNone then .ready else .done,pending:=jump }) jump.isNone:=by
 intro ro w I β vs hm hd
 obtain⟨γ,hp⟩:=oe_ (hm.bxs 1999 _ rfl) hs
 have hblk:=hp.blk hs
 have hsep:=fun n hn=>hm.sep 1999 _ n rfl hn
 have hLI:¬ I L:=(hsep L ((hblk L).2 (.inr (.inr rfl)))).1
 have hDI:¬ I D:=(hsep D ((hblk D).2 (.inr (.inl rfl)))).1
 have hLlt:L<w.heap.size:=(Array.getElem?_eq_some_iff.1 hp.hL).1
 have hDlt:D<w.heap.size:=(Array.getElem?_eq_some_iff.1 hp.hD).1
 have hvl:vs.length=rec.params.size:=by rw[← hps,hd.length]
 have hy:=run_yield (P:=P) (args:=vs.toArray) hp.hL (by simpa using hvl)
 refine⟨_,_,_,_,hy,roundIn_of_wpIn (F:=fO ro) trivial (l0_ (ro:=some L) ?_)⟩
 have hm1:Mem w I (Fp bx γ) bx I γ w:=⟨hp.bxs,fun k b n hk hn=>⟨(hsep n ((hblk n).2 (.inl ⟨k,b,hk,hn⟩))).1,.inl ⟨k,b,hk,hn⟩⟩,hp.inj,hm.im,fun _ h=>.inl h,.refl w I,fun _ _ _=>rfl,Nat.le_refl _,rfl,rfl,rfl,Nat.le_refl _,hm.gl⟩
 have hLF:¬ Fp bx γ L:=fun ⟨k,b,hk,hn⟩=>(hp.ap k b L hk hn).2 rfl
 have hDF:¬ Fp bx γ D:=fun ⟨k,b,hk,hn⟩=>(hp.ap k b D hk hn).1 rfl
 have hsl:DenAs w I γ (setP sl0 rec.params.toList (xs.map .d)) ((rec.params.zip vs.toArray).foldl (fun tmps (t,a)=>tmps.setIfInBounds t a) rec.tmps).toList:=by
  have:=DenAs.setP rec.params.toList hp.sl (DenAs.of_dens (β:=γ) hd)
  have e:(rec.params.zip vs.toArray).foldl (fun tmps (t,a)=>tmps.setIfInBounds t a) rec.tmps=(rec.params.toList.zip vs).foldl (fun tmps (t,a)=>tmps.setIfInBounds t a) rec.tmps:=by
   rw[← Array.foldl_toList,Array.toList_zip]
  rw[e];exact this
 refine wpIn_mono (hw w I (Fp bx γ) I γ _ w ⟨hm1,hsl,⟨rfl,fun _=>rfl⟩,fun k hk=>hp.fx k hk⟩) fun e a1 w1 hh=>?_
 cases e with
 | normal =>
  obtain⟨S1,I1,γ1,hbody,hr1⟩:=hh
  have hL1:w1.heap[L]? = some (.loop rec):=(hr1.mem.fr L hLlt hLF).trans hp.hL
  have hD1:w1.heap[D]? = some (.deferred (some [])):=(hr1.mem.fr D hDlt hDF).trans hp.hD
  have hL1I:¬ I1 L:=fun h=>by rcases hr1.mem.inew L h with h|h|h;exact hLI h;exact hLF h;omega
  have hD1I:¬ I1 D:=fun h=>by rcases hr1.mem.inew D h with h|h|h;exact hDI h;exact hDF h;omega
  have hL1B:∀ k b,getB S1.bx k=some b→¬ Blk (γ1 k) L:=fun k b hk hn=>by rcases (hr1.mem.sep k b L hk hn).2 with h|h;exact hLF h;omega
  have hD1B:∀ k b,getB S1.bx k=some b→¬ Blk (γ1 k) D:=fun k b hk hn=>by rcases (hr1.mem.sep k b D hk hn).2 with h|h;exact hDF h;omega
  have hL1lt:L<w1.heap.size:=(Array.getElem?_eq_some_iff.1 hL1).1
  obtain⟨w2,hw2⟩:∃ w2,w1.putObj L (.loop { rec with state:=.busy })=w2:=⟨_,rfl⟩
  have hg2:Gb w1 w2 (some L):=by rw[← hw2];exact⟨grownBy_putObj' w1 L _,Nat.le_refl _⟩
  have hL2:w2.heap[L]? = some (.loop { rec with state:=.busy }):=by rw[← hw2];exact World.putObj_heap_same hL1lt
  have hD2:w2.heap[D]? = some (.deferred (some [])):=by rw[← hw2];exact (World.putObj_heap_other hp.ne).trans hD1
  have hmW2:Mem w I (Fp [(1999,.opq (da_ β0 D L sl0 bx rec))] β) S1.bx I1 γ1 w2 :=
   (hr1.mem.wide fun n hn=>Fp.one.2 ((hblk n).2 (.inl hn))).world hg2 (fun n e=>by cases e;exact⟨hL1I,.inl (Fp.one.2 ((hblk L).2 (.inr (.inr rfl))))⟩) fun k b hk=>⟨hk,.inr fun n e hn=>by cases e;exact hL1B k b hk hn⟩
  have hk12:Kept w1 I1 w2 I1:=⟨fun _ h=>h,fun n hn=>by rw[← hw2];exact World.putObj_heap_other fun e=>hL1I (e▸hn)⟩
  have hL2lt:L<w2.heap.size:=(Array.getElem?_eq_some_iff.1 hL2).1
  have hD2lt:D<w2.heap.size:=(Array.getElem?_eq_some_iff.1 hD2).1
  have hL2F:¬ Fp S1.bx γ1 L:=fun ⟨k,b,hk,hn⟩=>hL1B k b hk hn
  have hD2F:¬ Fp S1.bx γ1 D:=fun ⟨k,b,hk,hn⟩=>hD1B k b hk hn
  refine⟨w2,by rw[← hw2];exact run_beginRound hL1 hrec,l0_ (ro:=some L) (wpIn_mono (hbody w2 I1 (Fp S1.bx γ1) I1 γ1 a1 w2 ⟨hmW2.start fun _ _ h=>h,DenAs.mono hk12 _ _ (fun _ _=>rfl) hr1.sl,hr1.dn,hr1.fx⟩) fun e a3 w3 hh=>?_)⟩
  have fin:(∃ S3 I3 γ3,(∃ S',Wk S3 S'∧∀ k b,getB bx' k=some b→getB S'.bx k=some b)∧Rel ⟨[],β0,some L,false⟩ w2 I1 (Fp S1.bx γ1) S3 I3 γ3 a3 w3) →
    ∃ v w4,(Instr.endRound L jump).run P w3=.ok v w4∧Ending.returned v=.returned (.bool jump.isNone)∧∃ I' y,Mem w I (Fp [(1999,.opq (da_ β0 D L sl0 bx rec))] β) [(0,.opq (da_ β0 D L sl0 bx' { rec with state:=if jump.isNone then .ready else .done,pending:=jump }))] I' (upd β 0 y) w4:=by
   rintro⟨S3,I3,γ3,⟨S4,hwk,hbx⟩,hr3⟩
   obtain⟨I4,γ4,hr4⟩:=hwk _ _ _ _ _ _ _ _ hr3
   have hm4:=hr4.mem.sub hbx
   have hmA:Mem w I (Fp [(1999,.opq (da_ β0 D L sl0 bx rec))] β) bx' I4 γ4 w3:=hmW2.after (fun _ _ h=>h) hm4
   have hL3:w3.heap[L]? = some (.loop { rec with state:=.busy }):=(hm4.fr L hL2lt hL2F).trans hL2
   have hD3:w3.heap[D]? = some (.deferred (some [])):=(hm4.fr D hD2lt hD2F).trans hD2
   have hL4I:¬ I4 L:=fun h=>by rcases hm4.inew L h with h|h|h;exact hL1I h;exact hL2F h;omega
   have hD4I:¬ I4 D:=fun h=>by rcases hm4.inew D h with h|h|h;exact hD1I h;exact hD2F h;omega
   have hL4B:∀ k b,getB bx' k=some b→¬ Blk (γ4 k) L:=fun k b hk hn=>by rcases (hm4.sep k b L hk hn).2 with h|h;exact hL2F h;omega
   have hD4B:∀ k b,getB bx' k=some b→¬ Blk (γ4 k) D:=fun k b hk hn=>by rcases (hm4.sep k b D hk hn).2 with h|h;exact hD2F h;omega
   have hend:=run_endRound (P:=P) jump hL3
   obtain⟨w4,hw4⟩:∃ w4,w3.putObj L (.loop { rec with state:=if jump.isNone then .ready else .done,pending:=jump })=w4:=⟨_,rfl⟩
   refine⟨_,w4,by rw[← hw4];exact hend,rfl,?_⟩
   have hg4:Gb w3 w4 (some L):=by rw[← hw4];exact⟨grownBy_putObj' w3 L _,Nat.le_refl _⟩
   have hmB:Mem w I (Fp [(1999,.opq (da_ β0 D L sl0 bx rec))] β) bx' I4 γ4 w4 :=
    hmA.world hg4 (fun n e=>by cases e;exact⟨hL4I,.inl (Fp.one.2 ((hblk L).2 (.inr (.inr rfl))))⟩) fun k b hk=>⟨hk,.inr fun n e hn=>by cases e;exact hL4B k b hk hn⟩
   have hp4:Pack β0 D L sl0 bx' { rec with state:=if jump.isNone then .ready else .done,pending:=jump } (fZ_ γ4 bx' D L) w4 I4 γ4 :=
    ⟨fun k hk=>hr4.fx k hk,rfl,hmB.bxs,hmB.inj,fun k b n hk hn=>⟨fun e=>hD4B k b hk (e▸hn),fun e=>hL4B k b hk (e▸hn)⟩,hp.ne,by rw[← hw4];exact (World.putObj_heap_other hp.ne).trans hD3,
     by rw[← hw4];exact World.putObj_heap_same (Array.getElem?_eq_some_iff.1 hL3).1,DenAs.mono hmB.kept _ _ (fun k hk=>(hr4.fx k (htg k hk)).trans (hp.fx k (htg k hk)).symm) hp.sl⟩
   refine⟨I4,fZ_ γ4 bx' D L,⟨fun k b hk=>?_,fun k b n hk hn=>?_,fun k j b c n hk hj _ _=>?_,hmB.im,hmB.inew,hmB.kept,hmB.fr,hmB.sz,hmB.os,hmB.tape,hmB.out,hmB.dr,hmB.gl⟩⟩
   ·simp only[getB] at hk
    split at hk
    ·rename_i e;subst e;cases hk;rw[upd_same];exact hp4.box hs'
    ·cases hk
   ·simp only[getB] at hk
    split at hk
    ·rename_i e;subst e;rw[upd_same] at hn
     rcases (hp4.blk hs' n).1 hn with⟨k,b',hb',hn'⟩|rfl|rfl
     ·exact hmB.sep k b' n hb' hn'
     ·exact⟨hD4I,.inl (Fp.one.2 ((hblk n).2 (.inr (.inl rfl))))⟩
     ·exact⟨hL4I,.inl (Fp.one.2 ((hblk n).2 (.inr (.inr rfl))))⟩
    ·cases hk
   ·simp only[getB] at hk hj
    split at hk
    ·split at hj
     ·omega
     ·cases hj
    ·cases hk
  cases e with
  | normal=>obtain⟨S3,I3,γ3,⟨hj,hx⟩,hr3⟩:=hh;cases hj;exact fin ⟨S3,I3,γ3,hx,hr3⟩
  | ret=>obtain⟨S3,I3,γ3,⟨hj,hx⟩,hr3⟩:=hh;cases hj;exact fin ⟨S3,I3,γ3,hx,hr3⟩
  | exit id=>obtain⟨S3,I3,γ3,⟨hj,hx⟩,hr3⟩:=hh;cases hj;exact fin ⟨S3,I3,γ3,hx,hr3⟩
  | goto t=>obtain⟨S3,I3,γ3,⟨hj,hx⟩,hr3⟩:=hh;cases hj;exact fin ⟨S3,I3,γ3,hx,hr3⟩
  | panic ch=>exact hh.1.elim
  | outgrown=>exact hh.elim
 | ret=>obtain⟨S3,I3,γ3,h,_⟩:=hh;exact h.elim
 | exit id=>obtain⟨S3,I3,γ3,h,_⟩:=hh;exact h.elim
 | goto t=>obtain⟨S3,I3,γ3,h,_⟩:=hh;exact h.elim
 | panic ch=>exact hh.1.elim
 | outgrown=>exact hh.elim
end Go.Xe
namespace Go.Xe
open Go.RowKit
variable [Glob]
theorem aQ_ (a b:Bxs) (k:Nat):getB (a++b) k=if isIn a k=true then getB a k else getB b k:=by
 induction a with
 | nil=>simp[isIn,getB]
 | cons p r ih =>
  obtain⟨j,c⟩:=p
  simp only[List.cons_append,getB,isIn]
  split
  ·simp
  ·rw[ih];rfl
theorem e2_ {bx:Bxs} {k:Nat} {b:Box} (h:getB bx k=some b):isIn bx k=true:=by simp[isIn,h]
theorem gV_ {bx:Bxs} {k:Nat} (h:isIn bx k=true):∃ b,getB bx k=some b:=by
 cases hg:getB bx k with
 | none=>simp[isIn,hg] at h
 | some b=>exact⟨b,rfl⟩
def pendOf (jump:Nat→Option Code):Nat→Option Code
 | 0=>none
 | i+1=>jump i
def eX_ (rec:Loop) (jump:Nat→Option Code) (i:Nat):Loop:={ rec with state:=if (pendOf jump i).isNone then .ready else .done,pending:=pendOf jump i }
def DM_ (P:Program) (ds:Dn) (pn:Pn) (Q:Exit→St→Prop) (j:Option Code) (S:Kp2 (P,ds,pn) (Q,j)):Prop :=
 match j with
 | none=>Q .normal S
 | some c=>WP P ds pn c Q S
@[simp] theorem m5_ {P:Program} {ds:Dn} {pn:Pn} {Q:Exit→St→Prop} {S:St}:DM_ P ds pn Q none S=Q .normal S:=rfl
@[simp] theorem uz_ {P:Program} {ds:Dn} {pn:Pn} {Q:Exit→St→Prop} {c:Code} {S:St}:DM_ P ds pn Q (some c) S=WP P ds pn c Q S:=rfl
theorem Mem.unpack {w0:World} {I0 F:Nat→Prop} {cb bx:Bxs} {I:Nat→Prop} {β':Nat→Value} {w:World} {βr γ:Nat→Value} {G L:Nat} {sl0:List AV} {rec:Loop} {kD:Nat} (hs:bW_ bx)
  (hA:Mem w0 I0 F (cb++[(0,.opq (da_ βr G L sl0 bx rec))]) I β' w) (hp:Pack βr G L sl0 bx rec (β' 0) w I γ) (hcb:∀ k,isIn cb k=true→isIn bx k=false) (hlow:∀ k,isIn cb k=true→1000≤k)
  (hcbt:∀ k b,getB cb k=some b→∀ t,am_ t b.cs=true→isIn cb t=true) (hbt:∀ k b,getB bx k=some b→∀ t,am_ t b.cs=true→isIn bx t=true) (hkD:kD<1000) (hkb:isIn bx kD=false) :
  Mem w0 I0 F (cb++(bx++[(kD,.obj G (.deferred (some [])))])) I (fun k=>if isIn cb k=true then β' k else if isIn bx k=true then γ k else if k=kD then .pointer (some ⟨G,0,none⟩) else βr k) w:=by
 obtain⟨β2,hβ2⟩:∃ β2:Nat→Value,(fun k=>if isIn cb k=true then β' k else if isIn bx k=true then γ k else if k=kD then .pointer (some ⟨G,0,none⟩) else βr k)=β2:=⟨_,rfl⟩
 rw[hβ2]
 have e1:∀ k,isIn cb k=true→β2 k=β' k:=fun k h=>(congrFun hβ2.symm k).trans (if_pos h)
 have e2:∀ k,isIn bx k=true→β2 k=γ k:=fun k h=>by
  have:isIn cb k=false:=by cases h2:isIn cb k with|false=>rfl|true=>rw[hcb k h2] at h;cases h
  exact (congrFun hβ2.symm k).trans ((if_neg (by rw[this];exact Bool.false_ne_true)).trans (if_pos h))
 have hkc:isIn cb kD=false:=by cases h2:isIn cb kD with|false=>rfl|true=>have:=hlow _ h2;omega
 have h0c:isIn cb 0=false:=by cases h2:isIn cb 0 with|false=>rfl|true=>have:=hlow _ h2;omega
 have e3:β2 kD=.pointer (some ⟨G,0,none⟩):=(congrFun hβ2.symm kD).trans ((if_neg (by rw[hkc];exact Bool.false_ne_true)).trans ((if_neg (by rw[hkb];exact Bool.false_ne_true)).trans (if_pos rfl)))
 have hblk:=hp.blk hs
 have src:∀ k b,getB (cb++(bx++[(kD,.obj G (.deferred (some [])))])) k=some b→(getB cb k=some b∧isIn cb k=true)∨(getB bx k=some b∧isIn bx k=true∧isIn cb k=false)∨(k=kD∧b=.obj G (.deferred (some []))):=fun k b h=>by
  rw[aQ_] at h
  split at h
  ·exact .inl ⟨h,e2_ h⟩
  ·rename_i h1
   rw[aQ_] at h
   split at h
   ·exact .inr (.inl ⟨h,e2_ h,by simpa using h1⟩)
   ·simp only[getB] at h
    split at h
    ·rename_i e;cases h;exact .inr (.inr ⟨e.symm,rfl⟩)
    ·cases h
 have hAc:∀ k b,getB cb k=some b→getB (cb++[(0,.opq (da_ βr G L sl0 bx rec))]) k=some b:=fun k b h=>by rw[aQ_,if_pos (e2_ h)];exact h
 have hA0:getB (cb++[(0,.opq (da_ βr G L sl0 bx rec))]) 0=some (.opq (da_ βr G L sl0 bx rec)):=by rw[aQ_,if_neg (by rw[h0c];simp)];rfl
 have from':∀ k b n,getB (cb++(bx++[(kD,.obj G (.deferred (some [])))])) k=some b→Blk (β2 k) n→∃ j c,(isIn cb k=true∧j=k∨isIn cb k=false∧j=0)∧getB (cb++[(0,.opq (da_ βr G L sl0 bx rec))]) j=some c∧Blk (β' j) n:=fun k b n h hn=>by
  rcases src k b h with⟨h1,h2⟩|⟨h1,h2,h3⟩|⟨rfl,rfl⟩
  ·exact⟨k,b,.inl ⟨h2,rfl⟩,hAc k b h1,by rw[← e1 k h2];exact hn⟩
  ·exact⟨0,_,.inr ⟨h3,rfl⟩,hA0,(hblk n).2 (.inl ⟨k,b,h1,by rw[← e2 k h2];exact hn⟩)⟩
  ·refine⟨0,_,.inr ⟨hkc,rfl⟩,hA0,(hblk n).2 (.inr (.inl ?_))⟩
   rw[e3] at hn
   exact hn.one rfl
 refine⟨fun k b h=>?_,fun k b n h hn=>?_,fun k j b c n hk hj hkn hjn=>?_,hA.im,hA.inew,hA.kept,hA.fr,hA.sz,hA.os,hA.tape,hA.out,hA.dr,hA.gl⟩
 ·rcases src k b h with⟨h1,h2⟩|⟨h1,h2,h3⟩|⟨rfl,rfl⟩
  ·rw[e1 k h2]
   exact (hA.bxs k b (hAc k b h1)).mono (.refl w I) (fun t ht=>e1 t (hcbt k b h1 t ht)) (fun _ _=>rfl)
  ·rw[e2 k h2]
   exact (hp.bxs k b h1).mono (.refl w I) (fun t ht=>e2 t (hbt k b h1 t ht)) (fun _ _=>rfl)
  ·rw[e3];exact⟨rfl,hp.hD⟩
 ·obtain⟨j,c,_,hj,hjn⟩:=from' k b n h hn
  exact hA.sep j c n hj hjn
 ·obtain⟨i1,c1,s1,hi1,hn1⟩:=from' k b n hk hkn
  obtain⟨i2,c2,s2,hi2,hn2⟩:=from' j c n hj hjn
  have hi:=hA.inj i1 i2 c1 c2 n hi1 hi2 hn1 hn2
  rcases s1 with⟨h1,rfl⟩|⟨h1,rfl⟩<;>rcases s2 with⟨h2,rfl⟩|⟨h2,rfl⟩
  ·exact hi
  ·have:=hlow _ h1;omega
  ·have:=hlow _ h2;omega
  ·rcases src k b hk with⟨_,h3⟩|⟨h3,h4,_⟩|⟨rfl,rfl⟩
   ·rw[h1] at h3;cases h3
   ·rw[e2 k h4] at hkn
    rcases src j c hj with⟨_,h5⟩|⟨h5,h6,_⟩|⟨rfl,rfl⟩
    ·rw[h2] at h5;cases h5
    ·rw[e2 j h6] at hjn;exact hp.inj k j b c n h3 h5 hkn hjn
    ·rw[e3] at hjn
     exact absurd (hjn.one rfl) (hp.ap k b n h3 hkn).1
   ·rcases src j c hj with⟨_,h5⟩|⟨h5,h6,_⟩|⟨rfl,rfl⟩
    ·rw[h2] at h5;cases h5
    ·rw[e2 j h6] at hjn
     rw[e3] at hkn
     exact absurd (hkn.one rfl) (hp.ap j c n h5 hjn).1
    ·rfl
theorem oR_ {P:Program} {gf:FuncId} (hb:Body P gf) (args:Array Value) (w:World):(callFunc gf args).run P w=.ok (.enter gf args) w:=by
 obtain⟨fn,c,h1,h2,h3⟩:=hb.ok
 simp only[callFunc,Sem.run_bind,run_program,Result.andThen_ok,h1,h3,h2,Bool.false_eq_true,if_false,Option.isNone_some,Sem.run_pure]
theorem WP.rangeFunc {P:Program} {ds:Dn} {pn:Pn} {Q:Exit→St→Prop} {S:St} {g:Operand} {ps:Array Tmp} {assign body:Code} {gf:FuncId} {caps:List AV} {cb:Bxs} {ccaps:List AV} {xs:Nat→List D} {jump:Nat→Option Code} {m:Nat}
  (hb:Body P gf) (hit:re_ P gf ccaps cb xs (fun i=>(jump i).isNone) m) (bs:Nat→Bxs) (sl0:List AV) (kD:Nat) (ρ:Nat→Nat) (hro:ds.ro=none) (hrf:ds.rf=true) (hg:qL_ (S.ev g)=some (gf,[],caps))
  (hcaps:LeqL caps (renL ρ ccaps)) (hsl:LeqL S.sl (renL ρ sl0)) (htg:∀ t,am_ t sl0=true→1000≤t) (hs:∀ i,i≤m→bW_ (bs i))
  (hok:∀ G,CallOk S ρ (cb++bs 0) (cb++(bs m++[(kD,.obj G (.deferred (some [])))])) (.tup []))
  (hcb:∀ k,isIn cb k=true→k≠1999∧isIn (bs 0) k=false∧isIn (bs m) k=false)
  (hcbt:∀ k b,getB cb k=some b→∀ t,am_ t b.cs=true→isIn cb t=true) (hbt:∀ k b,getB (bs m) k=some b→∀ t,am_ t b.cs=true→isIn (bs m) t=true)
  (hct:∀ t,am_ t ccaps=true→isIn cb t=true) (hkD:kD<1000) (hkb:isIn (bs m) kD=false)
  (hj:∀ i,i+1<m→jump i=none) (hx:∀ i,i<m→(xs i).length=ps.size)
  (hfr:∀ G,bY_ S (cB_ ρ (cb++bs 0) (cb++(bs m++[(kD,.obj G (.deferred (some [])))]))))
  (round:∀ i,i<m→∀ l β0,WP P ⟨[],β0,some l,false⟩ an_ assign (asQ P ⟨[],β0,some l,false⟩ an_ body (rdQ (jump i) (bs (i+1)))) ⟨setP sl0 ps.toList ((xs i).map .d),bs i,[]⟩)
  (hend:∀ G,DM_ P ds pn Q (pendOf jump m) ⟨(S.app none (callE ρ (cb++bs 0) (cb++(bs m++[(kD,.obj G (.deferred (some [])))])) (.tup []))).sl,(S.app none (callE ρ (cb++bs 0) (cb++(bs m++[(kD,.obj G (.deferred (some [])))])) (.tup []))).bx,G::S.df⟩) :
  WP P ds pn (.rangeFunc g ps assign body) Q S:=by
 intro w0 I0 F I β a w hr
 rw[hro]
 refine wpIn_rangeFunc (F:=fO none) (n:=1) fun fn hfn=>?_
 obtain⟨va,vb,hge,hda,hdb⟩:=uk_ hg (hr.ev g)
 rw[DenAs] at hda
 subst hda
 obtain⟨G,hG⟩:∃ G,w.heap.size=G:=⟨_,rfl⟩
 obtain⟨L,hL⟩:∃ L,w.heap.size+1=L:=⟨_,rfl⟩
 obtain⟨rec,hrec⟩:∃ rec:Loop,rec={ state:=.ready,pending:=none,fn,tmps:=a.tmps,params:=ps,assign,body,defers:=w.heap.size }:=⟨_,rfl⟩
 obtain⟨W1,hW1⟩:∃ W1,(w.alloc (.deferred (some []))).alloc (.loop rec)=W1:=⟨_,rfl⟩
 have hG1:W1.heap[G]? = some (.deferred (some [])):=by
  rw[← hW1,← hG];exact (f1_ _ _ _ (by rw[World.size_alloc];omega)).trans (World.alloc_heap_new w _)
 have hL1:W1.heap[L]? = some (.loop rec):=by
  rw[← hW1,← hL];have:=World.alloc_heap_new (w.alloc (.deferred (some []))) (.loop rec);rwa[World.size_alloc] at this
 obtain⟨βr,hβr⟩:∃ βr:Nat→Value,(fun k=>β (ρ k))=βr:=⟨_,rfl⟩
 have hbr:∀ k,βr k=β (ρ k):=fun k=>by rw[← hβr]
 have h0:=hr.handed (hok G)
 rw[hβr] at h0
 have h2:Mem w I (Fp (cb++bs 0) βr) (cb++bs 0) I βr W1:=by
  rw[← hW1]
  exact (h0.world (Gb.alloc w _ none) (r:=none) (by simp) fun k b h=>⟨h,.inl rfl⟩).world (Gb.alloc _ _ none) (r:=none) (by simp) fun k b h=>⟨h,.inl rfl⟩
 have hk01:Kept w I W1 I:=h2.kept
 have hcbl:∀ k,isIn cb k=true→1000≤k:=fun k h=>by
  obtain⟨b,hkb⟩:=gV_ h
  exact (hok G).low (k,b) (List.mem_append_left _ (aE_ hkb))
 have hc0:∀ k b,getB cb k=some b→getB (cb++bs 0) k=some b:=fun k b h=>by rw[aQ_,if_pos (e2_ h)];exact h
 have hb0:∀ k b,getB (bs 0) k=some b→getB (cb++bs 0) k=some b:=fun k b h=>by
  rw[aQ_,if_neg];exact h
  intro hk;have:=(hcb k hk).2.1;rw[e2_ h] at this;cases this
 have hlt0:∀ k b n,getB (cb++bs 0) k=some b→Blk (βr k) n→n<G:=fun k b n hk hn=>by rw[← hG];exact (h0.bxs k b hk).lt hn
 have hpk:Pack βr G L sl0 (bs 0) rec (fZ_ βr (bs 0) G L) W1 I βr :=
  ⟨fun _ _=>rfl,rfl,fun k b h=>h2.bxs k b (hb0 k b h),fun k j b c n h1 h3=>h2.inj k j b c n (hb0 k b h1) (hb0 j c h3),fun k b n h hn=>by have:=hlt0 k b n (hb0 k b h) hn;omega,by omega,hG1,hL1,by
   have h:=hsl.ok hr.sl
   rw[aP_,hβr] at h
   rw[hrec]
   exact DenAs.mono hk01 _ _ (fun _ _=>rfl) h⟩
 have hs0:=hs 0 (Nat.zero_le _)
 have h1999:isIn cb 1999=false:=by cases h:isIn cb 1999 with|false=>rfl|true=>exact absurd rfl (hcb _ h).1
 have h0c:isIn cb 0=false:=by cases h:isIn cb 0 with|false=>rfl|true=>have:=hcbl _ h;omega
 have hI:Mem w I (Fp (cb++bs 0) βr) (cb++[(1999,.opq (da_ βr G L sl0 (bs 0) rec))]) I (upd βr 1999 (fZ_ βr (bs 0) G L)) W1:=by
  have hc:Mem w I (Fp (cb++bs 0) βr) cb I βr W1:=h2.sub hc0
  have hf:∀ (bx:Bxs),(∀ k b,getB bx k=some b→True)→True:=fun _ _=>trivial
  refine⟨fun k b h=>?_,fun k b n h hn=>?_,fun k j b c n h h' hn hn'=>?_,h2.im,h2.inew,h2.kept,h2.fr,h2.sz,h2.os,h2.tape,h2.out,h2.dr,h2.gl⟩
  ·rw[aQ_] at h
   split at h
   ·rename_i hk
    rw[upd_other _ _ (hcb k hk).1]
    exact (hc.bxs k b h).mono (.refl _ _) (fun t ht=>upd_other _ _ (hcb t (hcbt k b h t ht)).1) (fun _ _=>rfl)
   ·simp only[getB] at h
    split at h
    ·rename_i e;subst e;cases h;rw[upd_same];exact hpk.box hs0
    ·cases h
  ·rw[aQ_] at h
   split at h
   ·rename_i hk
    rw[upd_other _ _ (hcb k hk).1] at hn
    exact hc.sep k b n h hn
   ·simp only[getB] at h
    split at h
    ·rename_i e;subst e;rw[upd_same] at hn
     rcases (hpk.blk hs0 n).1 hn with⟨j,c,hj,hn⟩|rfl|rfl
     ·exact h2.sep j c n (hb0 j c hj) hn
     ·exact⟨fun h=>by have:=h0.im _ h;omega,.inr (by omega)⟩
     ·exact⟨fun h=>by have:=h0.im _ h;omega,.inr (by omega)⟩
    ·cases h
  ·have far:∀ j c,getB cb j=some c→Blk (βr j) n→¬ Blk (fZ_ βr (bs 0) G L) n:=fun j c hj hjn hy=>by
    rcases (hpk.blk hs0 n).1 hy with⟨i,d,hi,hin⟩|rfl|rfl
    ·have:=h2.inj j i c d n (hc0 j c hj) (hb0 i d hi) hjn hin
     subst this
     have:=(hcb j (e2_ hj)).2.1;rw[e2_ hi] at this;cases this
    ·have:=hlt0 j c _ (hc0 j c hj) hjn;omega
    ·have:=hlt0 j c _ (hc0 j c hj) hjn;omega
   rw[aQ_] at h h'
   split at h<;>split at h'
   ·rename_i hk hk'
    rw[upd_other _ _ (hcb k hk).1] at hn
    rw[upd_other _ _ (hcb j hk').1] at hn'
    exact hc.inj k j b c n h h' hn hn'
   ·rename_i hk hk'
    simp only[getB] at h'
    split at h'
    ·rename_i e;subst e
     rw[upd_same] at hn'
     rw[upd_other _ _ (hcb k hk).1] at hn
     exact absurd hn' (far k b h hn)
    ·cases h'
   ·rename_i hk hk'
    simp only[getB] at h
    split at h
    ·rename_i e;subst e
     rw[upd_same] at hn
     rw[upd_other _ _ (hcb j hk').1] at hn'
     exact absurd hn (far j c h' hn')
    ·cases h
   ·simp only[getB] at h h'
    split at h
    ·split at h'
     ·omega
     ·cases h'
    ·cases h
 have hargs:DenAs W1 I (upd βr 1999 (fZ_ βr (bs 0) G L)) (.d (.v (.func (.yield L) #[] #[]))::ccaps) (.func (.yield L) #[] #[]::vb):=by
  refine⟨_,_,rfl,by rw[DenA_v],?_⟩
  have h:=hcaps.ok hdb
  rw[aP_,hβr] at h
  exact DenAs.mono hk01 _ _ (fun t ht=>upd_other _ _ (hcb t (hct t ht)).1) h
 have hrec0:eX_ rec jump 0=rec:=by rw[hrec];rfl
 have hcall:=hit L (fun i=>da_ βr G L sl0 (bs i) (eX_ rec jump i)) (fun i hi=>by
  have hst:(eX_ rec jump i).state=.ready:=by
   have:pendOf jump i=none:=by
    cases i with
    | zero=>rfl
    | succ i=>exact hj i hi
   simp[eX_,this]
  have hpsz:(xs i).length=(eX_ rec jump i).params.size:=by rw[hx i hi,eX_,hrec]
  have hw:=round i hi L βr
  have:=hL_ (D:=G) (L:=L) (β0:=βr) (sl0:=sl0) (bx:=bs i) (bx':=bs (i+1)) (rec:=eX_ rec jump i) (jump:=jump i) hst hpsz htg (hs i (Nat.le_of_lt hi)) (hs (i+1) hi)
   (by rw[eX_,hrec];exact hw)
  exact this)
 have hIf:Mem w I (Fp (cb++bs 0) βr) (cb++[(1999,.opq (da_ βr G L sl0 (bs 0) (eX_ rec jump 0)))]) I (upd βr 1999 (fZ_ βr (bs 0) G L)) W1:=by rw[hrec0];exact hI
 refine⟨L,[ka_ G],W1,{ target:=.fn (.func gf) vb.toArray,args := #[.func (.yield L) #[] #[]] },W1,gf,(.func (.yield L) #[] #[]::vb).toArray,W1,?_,?_,fun _ _=>trivial,?_,(fun h=>by cases h),?_⟩
 ·rw[← hW1,← hL,← hG,hrec];exact run_enterLoop_outer _ _ _ _ _
 ·simp only[resolve,hge]
  simp[go_sem]
 ·have:=oR_ hb (#[.func (.yield L) #[] #[]]++vb.toArray) W1
  have e:(#[.func (.yield L) #[] #[]]++vb.toArray:Array Value)=(.func (.yield L) #[] #[]::vb).toArray:=by apply Array.ext';simp
  rw[e] at this
  simp only[invoke]
  rw[e];exact this
 ·refine callsIn_fO ((hcall W1 I _ _ (hIf.start fun _ _ h=>h) hargs).mono fun e w3 he=>?_)
  cases e with
  | outgrown=>exact he.elim
  | panicked ch=>exact he.1.elim
  | returned v =>
   obtain⟨I',β',hm,_,hfx⟩:=he
   have hA:Mem w I (Fp (cb++bs 0) βr) (cb++[(0,.opq (da_ βr G L sl0 (bs m) (eX_ rec jump m)))]) I' β' w3:=hIf.after (fun _ _ h=>h) hm
   have hA0:getB (cb++[(0,.opq (da_ βr G L sl0 (bs m) (eX_ rec jump m)))]) 0=some (.opq (da_ βr G L sl0 (bs m) (eX_ rec jump m))):=by rw[aQ_,if_neg (by rw[h0c];simp)];rfl
   have hsm:=hs m (Nat.le_refl _)
   obtain⟨γ,hp⟩:=oe_ (hA.bxs 0 _ hA0) hsm
   have hLb:Blk (β' 0) L:=(hp.blk hsm L).2 (.inr (.inr rfl))
   have hU:=hA.unpack hsm hp (fun k hk=>(hcb k hk).2.2) hcbl hcbt hbt hkD hkb
   obtain⟨β3,hβ3⟩:∃ β3:Nat→Value,(fun k=>if isIn cb k=true then β' k else if isIn (bs m) k=true then γ k else if k=kD then .pointer (some ⟨G,0,none⟩) else βr k)=β3:=⟨_,rfl⟩
   rw[hβ3] at hU
   have hend4:=run_endLoop (P:=P) hp.hL (by simp only[eX_];split<;>simp)
   obtain⟨w4,hw4⟩:∃ w4,w3.putObj L (.loop { eX_ rec jump m with state:=.exhausted })=w4:=⟨_,rfl⟩
   have hg4:Gb w3 w4 (some L):=by rw[← hw4];exact⟨grownBy_putObj' w3 L _,Nat.le_refl _⟩
   have hLs:=hA.sep 0 _ L hA0 hLb
   have hkc:isIn cb kD=false:=by cases h2:isIn cb kD with|false=>rfl|true=>have:=hcbl _ h2;omega
   have hmF:Mem w I (Fp (cb++bs 0) βr) (cb++(bs m++[(kD,.obj G (.deferred (some [])))])) I' β3 w4:=by
    refine hU.world hg4 (fun n e=>by cases e;exact hLs) fun k b hk=>⟨hk,.inr fun n e hn=>?_⟩
    cases e
    have hk':=hk
    rw[aQ_] at hk'
    split at hk'
    ·rename_i h1
     have e1:β3 k=β' k:=(congrFun hβ3.symm k).trans (if_pos h1)
     rw[e1] at hn
     have:=hA.inj k 0 b _ L (by rw[aQ_,if_pos h1];exact hk') hA0 hn hLb
     subst this
     rw[h0c] at h1;cases h1
    ·rename_i h1
     rw[aQ_] at hk'
     split at hk'
     ·rename_i h3
      have e1:β3 k=γ k:=(congrFun hβ3.symm k).trans ((if_neg h1).trans (if_pos h3))
      rw[e1] at hn
      exact (hp.ap k b L hk' hn).2 rfl
     ·rename_i h3
      simp only[getB] at hk'
      split at hk'
      ·rename_i e;subst e
       have e1:β3 kD=.pointer (some ⟨G,0,none⟩):=(congrFun hβ3.symm kD).trans ((if_neg h1).trans ((if_neg h3).trans (if_pos rfl)))
       rw[e1] at hn
       exact hp.ne (hn.one rfl).symm
      ·cases hk'
   have hfx3:∀ k,1000≤k→β3 k=β (ρ k):=fun k hk=>by
    rw[← hbr,← hβ3]
    show (if isIn cb k=true then _ else _)=_
    split
    ·rename_i h1;rw[hfx k hk,upd_other _ _ (hcb k h1).1]
    ·split
     ·exact hp.fx k hk
     ·rw[if_neg (by omega)]
   rw[← hβr] at hmF
   obtain⟨β2,hr2⟩:=hr.called (hok G) ((b5_ _).1 (hfr G)) hmF (v:=.tuple #[]) ⟨[],rfl,rfl⟩ hfx3 none
   have hr3:Rel ds w0 I0 F ⟨(S.app none (callE ρ (cb++bs 0) (cb++(bs m++[(kD,.obj G (.deferred (some [])))])) (.tup []))).sl,(S.app none (callE ρ (cb++bs 0) (cb++(bs m++[(kD,.obj G (.deferred (some [])))])) (.tup []))).bx,G::S.df⟩ I' β2
     { a with defers:=[ka_ G]++a.defers } w4:=⟨hr2.mem,hr2.sl,⟨by show ka_ G::a.defers=_;rw[hr.dn.1];rfl,fun h=>by rw[hrf] at h;cases h⟩,hr2.fx⟩
   refine⟨_,w4,by rw[← hw4];exact hend4,?_⟩
   have hq:=hend G
   have hpe:(eX_ rec jump m).pending=pendOf jump m:=rfl
   rw[hpe]
   cases hpm:pendOf jump m with
   | none =>
    rw[hpm] at hq
    exact⟨_,I',β2,hq,hr3⟩
   | some c =>
    rw[hpm] at hq
    have:=hq w0 I0 F I' β2 _ w4 hr3
    rw[hro] at this
    exact this
theorem gz_ {τ:Tab} {rs:List ResultVar} {res:AV} {bo:Bxs} {S S':St} (hw:Wk S S') (h:finE τ rs res bo S') (D k:Nat) (hdf:S'.df=[D]) (hk:getB S'.bx k=some (.obj D (.deferred (some [])))) (hb:getB bo k=none):finQR τ rs res bo .ret S :=
 ⟨.inr rfl,S',hw,h.fin.fin,[k],by rw[hdf];exact⟨hk,hb,by simp,trivial⟩⟩
theorem gA_ {τ:Tab} {rs:List ResultVar} {res:AV} {bo:Bxs} {S:St} (h:finE τ rs res bo S) (D k:Nat) (hdf:S.df=[D]) (hk:getB S.bx k=some (.obj D (.deferred (some [])))) (hb:getB bo k=none):finQR τ rs res bo .ret S :=
 gz_ (.refl S) h D k hdf hk hb
theorem gB_ {τ:Tab} {rs:List ResultVar} {res:AV} {bo:Bxs} {S:St} (hdf:S.df=[]) (h:finE τ rs res bo S):finQR τ rs res bo .ret S:=⟨.inr rfl,S,.refl S,h.fin.fin,[],by rw[hdf];trivial⟩
theorem wy_ {τ:Tab} {rs:List ResultVar} {res:AV} {bo:Bxs} {S:St} (hdf:S.df=[]) (h:finE τ rs res bo S):finQR τ rs res bo .normal S:=⟨.inl rfl,S,.refl S,h.fin.fin,[],by rw[hdf];trivial⟩
@[simp] theorem iv_ (m:Nat):pendOf (fun _=>none) m=none:=by cases m<;>rfl
attribute [simp] setP
theorem dA_ {P:Program} {ds:Dn} {pn:Pn} {Q:Exit→St→Prop} {S:St} {g:Operand} {ps:Array Tmp} {assign body:Code} {gf:FuncId} {caps:List AV} {cb:Bxs} {ccaps:List AV} {xs:Nat→List D} {jump:Nat→Option Code} {m:Nat}
  (hb:Body P gf) (hit:re_ P gf ccaps cb xs (fun i=>(jump i).isNone) m) (bs:Nat→Bxs) (sl0:List AV) (kD:Nat) (ρ:Nat→Nat) (hro:ds.ro=none) (hrf:ds.rf=true) (hg:qL_ (S.ev g)=some (gf,[],caps))
  (hcaps:LeqL caps (renL ρ ccaps)) (hsl:LeqL S.sl (renL ρ sl0)) (htg:∀ t∈aC_ sl0,1000≤t) (hs:∀ i,i≤m→bW_ (bs i))
  (hcb:∀ p∈cb,p.1≠1999∧isIn (bs 0) p.1=false∧isIn (bs m) p.1=false)
  (hcbt:∀ p∈cb,∀ t∈aC_ p.2.cs,isIn cb t=true) (hbt:∀ p∈bs m,∀ t∈aC_ p.2.cs,isIn (bs m) t=true)
  (hct:∀ t∈aC_ ccaps,isIn cb t=true) (hkD:kD<1000) (hkb:isIn (bs m) kD=false)
  (hj:∀ i,i+1<m→jump i=none) (hx:∀ i,i<m→(xs i).length=ps.size)
  (round:∀ i,i<m→∀ l β0,WP P ⟨[],β0,some l,false⟩ an_ assign (asQ P ⟨[],β0,some l,false⟩ an_ body (rdQ (jump i) (bs (i+1)))) ⟨setP sl0 ps.toList ((xs i).map .d),bs i,[]⟩)
  (hok:∀ G,CallOk S ρ (cb++bs 0) (cb++(bs m++[(kD,.obj G (.deferred (some [])))])) (.tup []))
  (hfr:∀ G,bY_ S (cB_ ρ (cb++bs 0) (cb++(bs m++[(kD,.obj G (.deferred (some [])))]))))
  (hend:∀ G,DM_ P ds pn Q (pendOf jump m) ⟨(S.app none (callE ρ (cb++bs 0) (cb++(bs m++[(kD,.obj G (.deferred (some [])))])) (.tup []))).sl,(S.app none (callE ρ (cb++bs 0) (cb++(bs m++[(kD,.obj G (.deferred (some [])))])) (.tup []))).bx,G::S.df⟩) :
  WP P ds pn (.rangeFunc g ps assign body) Q S :=
 WP.rangeFunc hb hit bs sl0 kD ρ hro hrf hg hcaps hsl (fun t ht=>htg t (d4_ ht)) hs hok
  (fun k hk=>by obtain⟨b,h⟩:=gV_ hk;exact hcb (k,b) (aE_ h))
  (fun k b h t ht=>hcbt (k,b) (aE_ h) t (d4_ ht)) (fun k b h t ht=>hbt (k,b) (aE_ h) t (d4_ ht)) (fun t ht=>hct t (d4_ ht)) hkD hkb hj hx hfr round hend
end Go.Xe
namespace Go.Xe
open Go.RowKit
variable [Glob]
end Go.Xe
namespace Go.Xe
open Go.RowKit Go.Sort Go.Shelf
variable [Glob]
section
variable {α:Type} [Inhabited α]
end
end Go.Xe
