/-
  Joined texts.
-/
import Derived.Test.YtdjkbdhdejlakaaGreatDoorV8
import Derived.Shelf.SlSortCmp.InsertionK
import Derived.Shelf.SlSortCmp.NoneTotal
import Derived.Test.YtdjkbdhdejlakaaGreatDoorVB
import Derived.Test.YtdjkbdhdejlakaaGreatDoorVZI
import Derived.Test.YtdjkbdhdejlakaaGreatDoorVFC
import Derived.Test.YtdjkbdhdejlakaaGreatDoorVEngMa
import Derived.DeepKeys5
set_option linter.unusedVariables false
set_option linter.unusedSimpArgs false
set_option linter.unusedSectionVars false
namespace Go.Xe
open Go.RowKit Go.Sort Go.Shelf
variable [Glob]
section
variable {α:Type} [Inhabited α]
end
end Go.Xe
namespace Go.Proofs.YtdjkbdhdejlakaaGreatDoor
open Go.Xe Go.RowKit
abbrev Fk:={f:Nat→Int // fOk f}
theorem EQ_:fOk f0:=⟨fun _=>vy_,.inl rfl,fun _ _=>rfl⟩
instance:Inhabited Fk:=⟨⟨f0,EQ_⟩⟩
def Cs_ (f:Nat→Int) (i:Nat):Value:=if i=54 then .bool (decide (f 54=1)) else .int .i64 (f i)
abbrev ES_:D:=.v (.func (.func 61) #[] #[])
@[simp] theorem D1_ (k:Nat) (l:List F):al_ k ((fsC l).map .d)=false:=by
 induction fsC l with
 | nil=>rfl
 | cons c cs ih=>rw[List.map_cons,al_,ih];rfl
theorem sv_:∀ (xs cs:List AV) (off:Nat),(∀ c∈cs,∃ d,c=.d d)→(∀ c∈xs,∃ d,c=.d d)→∀ c∈setL cs off xs,∃ d,c=AV.d d
 | [],cs,off,h,_,c,hc=>h c hc
 | x::xs,cs,off,h,h2,c,hc=>sv_ xs _ _ (fun c' hc'=>by
   rcases List.mem_or_eq_of_mem_set hc' with h'|rfl
   ·exact h c' h'
   ·exact h2 _ (by simp)) (fun c' hc'=>h2 c' (by simp[hc'])) c hc
theorem n7_ {k:Nat}:∀ {l:List AV},(∀ c∈l,∃ d,c=.d d)→al_ k l=false
 | [],_=>rfl
 | c::l,h=>by
  obtain⟨d,rfl⟩:=h c (by simp)
  rw[al_,n7_ fun c' h'=>h c' (by simp[h'])]
  rfl
theorem mm_ (k:Nat) (ds:List D) (off n:Nat):al_ k (setL (ds.map .d) off (List.replicate n (.d .any)))=false :=
 n7_ (sv_ _ _ _ (fun c h=>by obtain⟨d,_,rfl⟩:=List.mem_map.1 h;exact⟨d,rfl⟩) fun c h=>⟨_,List.eq_of_mem_replicate h⟩)
@[simp] def cB:Box:=.cells 131 [.d ES_]
@[simp] def rBk (l:List F):Box:=.row 58 57 l.length ((fsC l).map .d)
abbrev fB_:D:=.v (.slice none 0 0)
abbrev Sg:=F×List D
def sgC (l:List Sg):List D:=l.flatMap fun p=>fcs p.1 0 57++p.2
def aL_ (p:Sg):Prop:=fOk p.1∧p.2.length=4∧∀ d∈p.2,oneD d=true
@[simp] def sgD (l:List Sg) (b:Bool):D:=.sl 61 (sgC l) l.length b
@[simp] def lgD (l:List Sg) (b:Bool):D:=.agg [sgD l b]
@[simp] def slF (l:List F):D:=.sl 57 (fsC l) l.length false
theorem a2_ (a b:List Sg):sgC (a++b)=sgC a++sgC b:=by simp[sgC]
theorem sgC_len:∀ {l:List Sg},(∀ p∈l,aL_ p)→(sgC l).length=l.length*61
 | [],_=>rfl
 | p::l,h=>by
  have e:sgC (p::l)=(fcs p.1 0 57++p.2)++sgC l:=rfl
  rw[e,List.length_append,List.length_append,ax_,(h p (by simp)).2.1,sgC_len fun q hq=>h q (by simp[hq]),List.length_cons]
  omega
theorem wF_ {l1 l2:List Sg} {p:Sg} (h:∀ q∈l1++p::l2,aL_ q):((sgC (l1++p::l2)).drop (l1.length*61)).take 61=fcs p.1 0 57++p.2:=by
 have e:sgC (p::l2)=(fcs p.1 0 57++p.2)++sgC l2:=rfl
 have h1:(sgC l1).length=l1.length*61:=sgC_len fun q hq=>h q (by simp[hq])
 have h2:(fcs p.1 0 57++p.2).length=61:=by rw[List.length_append,ax_,(h p (by simp)).2.1]
 rw[a2_,e,← h1,List.drop_left,List.take_append,h2,Nat.sub_self,List.take_zero,List.append_nil,List.take_of_length_le (by omega)]
def vF (l:List Sg):List F:=(l.map (·.1)).filter fun f=>(numF f).2
theorem lB_ (a b:List Sg):vF (a++b)=vF a++vF b:=by simp[vF]
theorem fh_ (l:List Sg):(vF l).length≤l.length:=by
 have:=List.length_filter_le (fun f:F=>(numF f).2) (l.map (·.1))
 rw[List.length_map] at this
 exact this
end Go.Proofs.YtdjkbdhdejlakaaGreatDoor
set_option linter.unusedVariables false
set_option linter.unusedSimpArgs false
set_option linter.unusedSectionVars false
namespace Go.Proofs.YtdjkbdhdejlakaaGreatDoor
open Go.Xe Go.RowKit
def cC_ (r:Int×Int):Value:=.agg #[.int .i64 r.1,.int .i64 r.2]
theorem km_ {r s:Int×Int} (h:cC_ r=cC_ s):r=s:=by
 simp[cC_] at h
 exact Prod.ext h.1 h.2
theorem Ai_:ry_ aj_ 3 56 55=true:=by decide
theorem nty:Tryz.prog.types.size=310:=by kernel_rfl
theorem bv_:Tryz.prog.keyTypeAt 5 56=true:=by kernel_rfl
theorem f7_ {r:Int×Int} (h1:isI r.1) (h2:isI r.2):∃ l,keyOf Tryz.prog 56 (cC_ r)=some l:=by
 have h:∀ i,isI ((fun i=>if i=55 then r.1 else if i=56 then r.2 else 0:Nat→Int) i):=fun i=>by
  dsimp only
  split
  ·exact h1
  ·split
   ·exact h2
   ·exact vy_
 obtain⟨n,hn,h3⟩:∃ n,n=Tryz.prog.types.size+1∧3≤n:=⟨_,rfl,by rw[nty];decide⟩
 have ok:OkD aj_ n 56 [.v (.int .i64 r.1),.v (.int .i64 r.2)]:=pU_ 3 n 56 _ h3 (qn_ h 3 56 55 Ai_)
 have hl:=bI_ (w:=(default:World)) (I:=fun _=>False) aa_ qd_ cH_ n 56 5 _ [.int .i64 r.1,.int .i64 r.2] bv_ (by decide) ok ⟨_,_,rfl,rfl,_,_,rfl,rfl,rfl⟩
 rw[hn] at hl
 have hk:Tryz.prog.keyType 56=true:=by kernel_rfl
 have hf:(cC_ r).formed Tryz.prog 56=true:=by
  unfold cC_ Value.formed
  rw[Tryz.underlying56]
  have:Tryz.prog.cellsOf 56=2:=by kernel_rfl
  simp[this]
 have hc:(cC_ r).cells.toList=[.int .i64 r.1,.int .i64 r.2]:=rfl
 simp only[keyOf,Tryz.underlying56,hk,hf,Bool.and_self,if_true,hc,hl,Option.map_some]
 exact⟨_,rfl⟩
theorem laidOut:laidOutB Tryz.prog=true:=by kernel_rfl
theorem dT_:Maps.Keyed Tryz.prog 56:=Maps.Keyed.of_law (deep_law_gate laidOut (by rw[nty];decide) (Nat.lt_of_lt_of_eq (by decide) nty.symm) (by kernel_rfl) (by rw[Tryz.underlying56]))
def aP_ (l:List (Int×Int)):List (Value×D):=l.map fun r=>(cC_ r,.v (.bool true))
def q8_ (l:List (Int×Int)):Prop:=∀ r∈l,isI r.1∧isI r.2
theorem dS_ {l:List (Int×Int)} (h:q8_ l):c8_ Tryz.prog 56 (aP_ l):=by
 intro p hp
 obtain⟨r,hr,rfl⟩:=List.mem_map.1 hp
 exact f7_ (h r hr).1 (h r hr).2
def a0_ (l:List (Int×Int)) (r:Int×Int):List (Int×Int):=if r∈l then l else l++[r]
theorem kj_ (l:List (Int×Int)) (r:Int×Int):iU_ (aP_ l) (cC_ r) (.v (.bool true)) (aP_ (a0_ l r)):=by
 unfold a0_
 split
 ·rename_i h
  obtain⟨a,b,rfl⟩:=List.append_of_mem h
  exact .inl ⟨aP_ a,.v (.bool true),aP_ b,by simp[aP_],by simp[aP_]⟩
 ·rename_i h
  refine .inr ⟨fun p hp e=>h ?_,by simp[aP_]⟩
  obtain⟨s,hs,rfl⟩:=List.mem_map.1 hp
  rw[← km_ e];exact hs
theorem pG_ (l:List (Int×Int)) (r:Int×Int):jt_ (aP_ l) (cC_ r) (.v (.bool false)) (.v (.bool (decide (r∈l)))):=by
 by_cases h:r∈l
 ·obtain⟨a,b,e⟩:=List.append_of_mem h
  refine .inl ⟨aP_ a,aP_ b,?_⟩
  rw[decide_eq_true h,e]
  simp[aP_]
 ·refine .inr ⟨fun p hp e=>h ?_,by rw[decide_eq_false h]⟩
  obtain⟨s,hs,rfl⟩:=List.mem_map.1 hp
  rw[← km_ e];exact hs
theorem addRef_in {l:List (Int×Int)} {r s:Int×Int}:s∈a0_ l r↔s∈l∨s=r:=by
 unfold a0_
 split
 ·rename_i h
  exact⟨.inl,fun h'=>h'.elim id fun e=>e▸h⟩
 ·simp
theorem sD_ {l:List (Int×Int)} {r:Int×Int} (h:q8_ l) (h1:isI r.1) (h2:isI r.2):q8_ (a0_ l r):=fun s hs=>by
 rcases addRef_in.1 hs with h'|rfl
 ·exact h s h'
 ·exact⟨h1,h2⟩
theorem b1_ (a b:Int):Leq (.agg [.d (.v (.int .i64 a)),.d (.v (.int .i64 b))]) (.d (.v (cC_ (a,b)))):=fun w I β v hv=>by
 obtain⟨vs,rfl,x,vs1,rfl,h1,y,vs2,rfl,h2,h3⟩:=hv
 have h3:vs2=[]:=h3
 subst h3
 rw[DenA_v] at h1 h2
 subst h1;subst h2
 exact DenA_v.2 rfl
theorem pH_ (a b:Int):Leq (.d (.agg [.v (.int .i64 a),.v (.int .i64 b)])) (.d (.v (cC_ (a,b)))):=(nq_ _).trans (b1_ a b)
end Go.Proofs.YtdjkbdhdejlakaaGreatDoor
