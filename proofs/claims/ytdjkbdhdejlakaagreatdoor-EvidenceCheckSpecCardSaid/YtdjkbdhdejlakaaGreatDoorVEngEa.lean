/-
  Joined texts.
-/
import Derived.Test.YtdjkbdhdejlakaaGreatDoorVTab
import Derived.Laws.Bits64b
import Derived.Test.YtdjkbdhdejlakaaGreatDoorVEX
set_option linter.unusedVariables false
set_option linter.unusedSimpArgs false
set_option linter.unusedSectionVars false
namespace Go.Proofs.YtdjkbdhdejlakaaGreatDoor
open Go.Xe Go.RowKit
def zig (n:Int):Nat:=if 0≤n then (2*n).toNat else (-2*n-1).toNat
def zag (u:Nat):Int:=if u%2=0 then (u/2:Nat) else -((u/2:Nat):Int)-1
def isI (n:Int):Prop:=-9223372036854775808≤n∧n≤9223372036854775807
def isU (u:Nat):Prop:=u<18446744073709551616
theorem lw_ {n:Int} (h:isI n):isU (zig n):=by unfold isI at h;unfold zig isU;split<;>omega
theorem xd_ {n:Int}:zag (zig n)=n:=by unfold zag zig;split<;>split<;>omega
theorem sh1:shN .u64 1=1:=rfl
theorem EJ_:shN .i64 63=63:=rfl
theorem sh7:shN .u64 7=7:=rfl
theorem uD_ (a:Nat) (h:a<18446744073709551616):a^^^18446744073709551615=18446744073709551615-a:=by
 have h2:(BitVec.ofNat 64 a)^^^(BitVec.allOnes 64) = ~~~(BitVec.ofNat 64 a):=BitVec.xor_allOnes
 have h3:=congrArg BitVec.toNat h2
 simp only[BitVec.toNat_xor,BitVec.toNat_ofNat,BitVec.toNat_allOnes,BitVec.toNat_not] at h3
 rw[Nat.mod_eq_of_lt (by omega)] at h3
 simpa using h3
theorem Ar_ {n:Int}:n.fdiv (2^63)=n/9223372036854775808:=by
 rw[Int.fdiv_eq_ediv_of_nonneg _ (by decide)];rfl
theorem lC_ {n:Int} (h:isI n):bits .xor .u64 (IntKind.u64.wrap (IntKind.u64.wrap n*2^shN IntKind.u64 1)) (IntKind.u64.wrap (n.fdiv (2^shN IntKind.i64 63)))=(zig n:Nat):=by
 unfold isI at h
 rw[sh1,EJ_,Ar_]
 simp only[IntKind.wrap_u64]
 by_cases h0:0≤n
 ·have e1:n/9223372036854775808%18446744073709551616=((0:Nat):Int):=by omega
  have e2:n%18446744073709551616*2^1%18446744073709551616=(((2*n).toNat:Nat):Int):=by omega
  rw[e1,e2,bits_xor_u64_nat _ _ (by omega) (by omega),Nat.xor_zero]
  simp[zig,h0]
 ·have e1:n/9223372036854775808%18446744073709551616=((18446744073709551615:Nat):Int):=by omega
  have e2:n%18446744073709551616*2^1%18446744073709551616=(((2*n+18446744073709551616).toNat:Nat):Int):=by omega
  rw[e1,e2,bits_xor_u64_nat _ _ (by omega) (by omega),uD_ _ (by omega)]
  simp only[zig,h0,if_false]
  omega
def bZ_ (u:Nat):List UInt8:=if u<128 then [UInt8.ofNat u] else UInt8.ofNat (u%128+128)::bZ_ (u/128)
termination_by u
decreasing_by omega
set_option maxRecDepth 100000 in
theorem DD_ (b:Int) (h:0≤b∧b≤255):bits .or .u8 b 128=b%128+128:=by
 have:∀ c:Fin 256,bits .or .u8 ((c.val:Nat):Int) 128=((c.val:Nat):Int)%128+128:=by decide
 have:=this ⟨b.toNat,by omega⟩
 simpa [Int.toNat_of_nonneg h.1] using this
theorem digit_num (u:Nat):(D.v (.int .u8 (bits .or .u8 (IntKind.u8.wrap (u:Int)) 128)))=aS_ (UInt8.ofNat (u%128+128)):=by
 rw[DD_ _ (by rw[IntKind.wrap_u8];omega),IntKind.wrap_u8,aS_]
 congr 2
 rw[UInt8.toNat_ofNat']
 omega
theorem pZ_ (u:Nat):(D.v (.int .u8 (IntKind.u8.wrap (u:Int))))=aS_ (UInt8.ofNat u):=by
 rw[IntKind.wrap_u8,aS_,UInt8.toNat_ofNat']
 congr 2
theorem shr7_num (u:Nat):((u:Int).fdiv (2^shN IntKind.u64 7))=((u/128:Nat):Int):=by
 rw[sh7,Int.fdiv_eq_ediv_of_nonneg _ (by decide)]
 omega
theorem qv_:∀ (k u:Nat),u<128^(k+1)→(bZ_ u).length≤k+1
 | k,u,h=>by
  unfold bZ_
  split
  ·simp
  ·cases k with
   | zero=>simp at h;omega
   | succ k =>
    have:=qv_ k (u/128) (by rw[Nat.pow_succ] at h;omega)
    simp only[List.length_cons];omega
theorem a8_ {u:Nat} (h:isU u):(bZ_ u).length≤10:=qv_ 9 u (by unfold isU at h;omega)
theorem v4_ (u:Nat):0<(bZ_ u).length:=by unfold bZ_;split<;>simp
theorem qQ_ {n:Int} (h:isI n) (h0:0≤n):((zig n:Nat):Int)=IntKind.u64.wrap (2*IntKind.u64.wrap n):=by
 unfold isI at h
 simp only[IntKind.wrap_u64,zig,if_pos h0];omega
theorem xc_ {n:Int} (h:isI n) (h0:n<0):((zig n:Nat):Int)=IntKind.u64.wrap (IntKind.u64.wrap (2*IntKind.u64.wrap (IntKind.i64.wrap (-IntKind.i64.wrap (n+1))))+1):=by
 unfold isI at h
 simp only[IntKind.wrap_u64,IntKind.wrap_i64,zig,if_neg (show ¬ 0≤n by omega)];omega
def bys (l:List UInt8):List D:=l.map aS_
@[simp] theorem bys_append (a b:List UInt8):bys (a++b)=bys a++bys b:=by simp[bys]
@[simp] theorem Eb_:bys []=[]:=rfl
@[simp] theorem CC_ (x:UInt8) (l:List UInt8):bys (x::l)=aS_ x::bys l:=rfl
@[simp] theorem y8_ (l:List UInt8):(bys l).length=l.length:=by simp[bys]
def slB (l:List UInt8):D:=.sl 1 (bys l) l.length false
theorem rE_ (u:Nat):(D.v (.int .u8 (IntKind.u8.wrap (IntKind.u64.wrap ((u:Int).tmod 128+128)))))=aS_ (UInt8.ofNat (u%128+128)):=by
 rw[IntKind.wrap_u8,IntKind.wrap_u64,aS_,UInt8.toNat_ofNat',Int.tmod_eq_emod_of_nonneg (by omega)]
 congr 2
 omega
theorem EB_ (a b:Nat):((max a b:Nat):Int)=max (a:Int) (b:Int):=by omega
end Go.Proofs.YtdjkbdhdejlakaaGreatDoor
set_option linter.unusedVariables false
set_option linter.unusedSimpArgs false
set_option linter.unusedSectionVars false
namespace Go.Xe
open Go.RowKit
variable [Glob]
theorem fL_ {α:Type} {s:Nat}:∀ (l:List (List α)),(∀ x∈l,x.length=s)→∀ (i:Nat) (x:List α),l[i]? = some x→(l.flatten.drop (i*s)).take s=x
 | [],_,i,x,h=>by simp at h
 | a::l,hl,0,x,h=>by
  simp only[List.getElem?_cons_zero,Option.some.injEq] at h
  subst h
  rw[Nat.zero_mul,List.drop_zero,List.flatten_cons,List.take_left' (hl a (by simp))]
 | a::l,hl,i+1,x,h=>by
  rw[List.getElem?_cons_succ] at h
  rw[List.flatten_cons,show (i+1)*s=a.length+i*s by rw[hl a (by simp),Nat.add_mul];omega,List.drop_append,List.drop_of_length_le (by omega),Nat.add_sub_cancel_left,List.nil_append]
  exact fL_ l (fun y hy=>hl y (by simp[hy])) i x h
section
variable {P:Program} {τ:Tab} {w:World} {I:Nat→Prop}
theorem ib_ (hτ:aq_ P τ) {L:List TypeId} (hL:gOk τ L=true) (hA:L.all (fun t=>g8_ (τ t))=true) {T k e byt q n:Nat} {z:List Value} (ht:τ T=some ⟨.array k e,k*tsz τ e,byt,z⟩) (he:L.contains e=true) (hke:P.keyTypeAt q e=true) {l:List (List D)} (hl:l.length=k)
  (hx:∀ x∈l,OkD τ n e x) {vs:List Value} (hd:Dens w I l.flatten vs):P.keyLits (n+1) T vs=some (a6_ l.flatten)∧vs.length=P.cellsOf T:=by
 obtain⟨dsc,hu,hok⟩:=(hτ T _ ht).und
 simp only[TK.ok] at hok
 subst hok
 have hte:∃ te,τ e=some te:=by
  have:=List.all_eq_true.1 hL e (by simpa using he)
  unfold ob_ at this
  cases hte:τ e with
  | none=>rw[hte] at this;cases this
  | some te=>exact⟨te,rfl⟩
 obtain⟨te,hte⟩:=hte
 have hce:=aQ_ (hτ e te hte) hte
 have hcT:=aQ_ (hτ T _ ht) ht
 have hlx:∀ x∈l,x.length=tsz τ e:=fun x hxl=>h4_ hL n e x he (hx x hxl)
 have hfl:l.flatten.length=k*tsz τ e:=by rw[eQ_ l fun i x h=>hlx x (List.mem_of_getElem? h),hl]
 have hvl:vs.length=P.cellsOf T:=by
  rw[hcT,← Dens.length hd,hfl]
  show _=(match τ T with|some e=>e.size|none=>0)
  rw[ht]
 refine⟨?_,hvl⟩
 unfold Program.keyLits
 simp only[hu]
 rw[if_pos hvl,h6_ (r:=l.map a6_) (by simp[hl]) fun i x y hi hy=>?_]
 ·rw[Option.map_some,dn_]
 ·rw[List.getElem?_map] at hy
  obtain⟨c,hc,rfl⟩:=Option.map_eq_some_iff.1 hy
  have hix:x=i:=by
   rw[List.getElem?_range (by
    have:=(List.getElem?_eq_some_iff.1 hc).1
    omega)] at hi
   exact (Option.some.inj hi).symm
  subst hix
  have hdc:=(hd.drop' (x*tsz τ e)).take' (tsz τ e)
  rw[fL_ l hlx x c hc] at hdc
  rw[hce]
  exact bI_ hτ hL hA n e q c _ hke he (hx c (List.mem_of_getElem? hc)) hdc
theorem nt_ (hτ:aq_ P τ) {L:List TypeId} (hL:gOk τ L=true) (hA:L.all (fun t=>g8_ (τ t))=true) {ds:Dn} {pn:Pn} {o:Oper} {S:St} {op:BinOp} {T T':TypeId} {x y:Operand}
  (ho:o.op=.binOp op T x y T') (hop:op=.eql∨op=.neq) {q:Nat} (hm:q+1≤10000) {k e byt:Nat} {z:List Value} (ht:τ T=some ⟨.array k e,k*tsz τ e,byt,z⟩) (hke:P.keyTypeAt q e=true) (he:L.contains e=true) (hgd:P.eqGuardType P.depth T=false)
  {n n':Nat} {cs es:List (List D)} (hx:Leq (S.ev x) (.d (.agg cs.flatten))) (hy:Leq (S.ev y) (.d (.agg es.flatten))) (lc:cs.length=k) (le:es.length=k)
  (oka:∀ c∈cs,OkD τ n e c) (okb:∀ c∈es,OkD τ n' e c) {r:Bool} (hr:r=true↔a6_ cs.flatten=a6_ es.flatten):LCore P ds pn o S ⟨.d (.v (.bool (eqRes op r))),[],[],[]⟩ []:=by
 intro S1 hs _
 have ex:=hs.1 x (by simp[ho,Op.operands])
 have ey:=hs.1 y (by simp[ho,Op.operands])
 refine Core.value fun w0 I0 F I β A w hrel=>⟨_,?_,DenA_v.2 rfl⟩
 have h1:=hrel.ev x
 have h2:=hrel.ev y
 rw[ex] at h1
 rw[ey] at h2
 have h1:=hx _ _ _ _ h1
 have h2:=hy _ _ _ _ h2
 rw[DenA] at h1 h2
 obtain⟨cs',hc,hda⟩:=h1
 obtain⟨es',hd,hdb⟩:=h2
 obtain⟨dsc,hu,hok⟩:=(hτ T _ ht).und
 simp only[TK.ok] at hok
 subst hok
 have hk:P.keyTypeAt (q+1) T=true:=by rw[Program.keyTypeAt,hu];exact hke
 obtain⟨k1,k2⟩:=ib_ hτ hL hA ht he hke lc oka hda
 obtain⟨k3,k4⟩:=ib_ hτ hL hA ht he hke le okb hdb
 have fm:∀ vs:List Value,vs.length=P.cellsOf T→(Value.agg vs.toArray).formed P T=true:=fun vs hv=>by
  unfold Value.formed
  rw[hu]
  simp[hv]
 have he:=run_equalIn_deep (10000-(q+1)) (q+1) T hk w (n+1) (n'+1) (.agg cs'.toArray) (.agg es'.toArray) _ _ (fm cs' k2) (fm es' k4) (by simpa [Value.cells] using k1) (by simpa [Value.cells] using k3)
 rw[show 10000-(q+1)+(q+1)=10000 by omega] at he
 obtain⟨r',hr1,hr2⟩:=he
 have:r'=r:=by rw[Bool.eq_iff_iff,hr2,hr]
 subst this
 have hr1:(Op.equal T (.agg cs'.toArray) (.agg es'.toArray)).run P w=.ok r' w:=hr1
 rcases hop with rfl|rfl<;>simp[execOp,ho,hc,hd,eqGuard,binOp,hr1,hgd,eqRes]
theorem y1_ (hτ:aq_ P τ) {L:List TypeId} (hL:gOk τ L=true) (hA:L.all (fun t=>g8_ (τ t))=true) {ds:Dn} {pn:Pn} {o:Oper} {S:St} {acc:List TI} {rest:St→List TI→Prop} {op:BinOp} {T T':TypeId} {x y:Operand}
  (ho:o.op=.binOp op T x y T') (hop:op=.eql∨op=.neq) {q:Nat} (hm:q+1≤10000) {k e byt:Nat} {z:List Value} (ht:τ T=some ⟨.array k e,k*tsz τ e,byt,z⟩) (hke:P.keyTypeAt q e=true) (he:L.contains e=true) (hgd:P.eqGuardType P.depth T=false)
  {n n':Nat} {cs es:List (List D)} (hx:Leq (S.ev x) (.d (.agg cs.flatten))) (hy:Leq (S.ev y) (.d (.agg es.flatten))) (lc:cs.length=k) (le:es.length=k)
  (oka:∀ c∈cs,OkD τ n e c) (okb:∀ c∈es,OkD τ n' e c) {r:Bool} (hr:r=true↔a6_ cs.flatten=a6_ es.flatten) (h:rest (S.put o.dst (.d (.v (.bool (eqRes op r))))) (⟨⟨.d (.v (.bool (eqRes op r))),[],[],[]⟩,[]⟩::acc)):vcStop P ds pn o rest S acc :=
 ⟨_,_,nt_ hτ hL hA ho hop hm ht hke he hgd hx hy lc le oka okb hr,trivial,h⟩
end
end Go.Xe
