/-
  Numbers of the codec: laws of their own.
-/
import Derived.Test.YtfgcgagcpnbgmaaGreatDoorGTab
import Derived.Laws.Bits64b
set_option linter.all false
namespace Go.Proofs.YtfgcgagcpnbgmaaGreatDoor
open Go.Xe Go.RowKit
def zig (n:Int):Nat:=if 0≤n then (2*n).toNat else (-2*n-1).toNat
def zag (u:Nat):Int:=if u%2=0 then (u/2:Nat) else -((u/2:Nat):Int)-1
def isI (n:Int):Prop:=-9223372036854775808≤n∧n≤9223372036854775807
def isU (u:Nat):Prop:=u<18446744073709551616
theorem lW_ {n:Int} (h:isI n):isU (zig n):=by unfold isI at h;unfold zig isU;split<;>omega
theorem ye_ {n:Int}:zag (zig n)=n:=by unfold zag zig;split<;>split<;>omega
theorem yc_ {u:Nat}:zig (zag u)=u:=by unfold zag zig;split<;>split<;>omega
theorem AA_ {u:Nat} (h:isU u):isI (zag u):=by unfold isU at h;unfold zag isI;split<;>omega
theorem sh1:shN .u64 1=1:=rfl
theorem FU_:shN .i64 63=63:=rfl
theorem sh7:shN .u64 7=7:=rfl
theorem vs_ (a:Nat) (h:a<18446744073709551616):a^^^18446744073709551615=18446744073709551615-a:=by
 have h2:(BitVec.ofNat 64 a)^^^(BitVec.allOnes 64) = ~~~(BitVec.ofNat 64 a):=BitVec.xor_allOnes
 have h3:=congrArg BitVec.toNat h2
 simp only[BitVec.toNat_xor,BitVec.toNat_ofNat,BitVec.toNat_allOnes,BitVec.toNat_not] at h3
 rw[Nat.mod_eq_of_lt (by omega)] at h3
 simpa using h3
theorem BV_ {n:Int}:n.fdiv (2^63)=n/9223372036854775808:=by
 rw[Int.fdiv_eq_ediv_of_nonneg _ (by decide)];rfl
theorem l4_ {n:Int} (h:isI n):bits .xor .u64 (IntKind.u64.wrap (IntKind.u64.wrap n*2^shN IntKind.u64 1)) (IntKind.u64.wrap (n.fdiv (2^shN IntKind.i64 63)))=(zig n:Nat):=by
 unfold isI at h
 rw[sh1,FU_,BV_]
 simp only[IntKind.wrap_u64]
 by_cases h0:0≤n
 ·have e1:n/9223372036854775808%18446744073709551616=((0:Nat):Int):=by omega
  have e2:n%18446744073709551616*2^1%18446744073709551616=(((2*n).toNat:Nat):Int):=by omega
  rw[e1,e2,bits_xor_u64_nat _ _ (by omega) (by omega),Nat.xor_zero]
  simp[zig,h0]
 ·have e1:n/9223372036854775808%18446744073709551616=((18446744073709551615:Nat):Int):=by omega
  have e2:n%18446744073709551616*2^1%18446744073709551616=(((2*n+18446744073709551616).toNat:Nat):Int):=by omega
  rw[e1,e2,bits_xor_u64_nat _ _ (by omega) (by omega),vs_ _ (by omega)]
  simp only[zig,h0,if_false]
  omega
theorem lX_ (a:Int) (h:isI a):bits .xor .i64 a 0=a:=by
 unfold isI at h
 have e:(BitVec.ofInt 64 a^^^BitVec.ofInt 64 0)=BitVec.ofInt 64 a:=by
  have:BitVec.ofInt 64 0=0#64:=by decide
  rw[this];simp
 show IntKind.i64.wrap ((BitVec.ofInt 64 a^^^BitVec.ofInt 64 0).toNat:Int)=a
 rw[e,IntKind.wrap_i64,BitVec.toNat_ofInt]
 omega
theorem lY_ (a:Int) (h:isI a):bits .xor .i64 a (-1)=-a-1:=by
 unfold isI at h
 have e:(BitVec.ofInt 64 a^^^BitVec.ofInt 64 (-1)) = ~~~ BitVec.ofInt 64 a:=by
  have:BitVec.ofInt 64 (-1)=BitVec.allOnes 64:=by decide
  rw[this];exact BitVec.xor_allOnes
 show IntKind.i64.wrap ((BitVec.ofInt 64 a^^^BitVec.ofInt 64 (-1)).toNat:Int)=-a-1
 rw[e,IntKind.wrap_i64,BitVec.toNat_not,BitVec.toNat_ofInt]
 omega
def digs (u:Nat):List UInt8:=if u<128 then [UInt8.ofNat u] else UInt8.ofNat (u%128+128)::digs (u/128)
termination_by u
decreasing_by omega
set_option maxRecDepth 100000 in
theorem EL_ (b:Int) (h:0≤b∧b≤255):bits .or .u8 b 128=b%128+128:=by
 have:∀ c:Fin 256,bits .or .u8 ((c.val:Nat):Int) 128=((c.val:Nat):Int)%128+128:=by decide
 have:=this ⟨b.toNat,by omega⟩
 simpa [Int.toNat_of_nonneg h.1] using this
theorem digit_num (u:Nat):(D.v (.int .u8 (bits .or .u8 (IntKind.u8.wrap (u:Int)) 128)))=a8_ (UInt8.ofNat (u%128+128)):=by
 rw[EL_ _ (by rw[IntKind.wrap_u8];omega),IntKind.wrap_u8,a8_]
 congr 2
 rw[UInt8.toNat_ofNat']
 omega
theorem qB_ (u:Nat):(D.v (.int .u8 (IntKind.u8.wrap (u:Int))))=a8_ (UInt8.ofNat u):=by
 rw[IntKind.wrap_u8,a8_,UInt8.toNat_ofNat']
 congr 2
theorem shr7_num (u:Nat):((u:Int).fdiv (2^shN IntKind.u64 7))=((u/128:Nat):Int):=by
 rw[sh7,Int.fdiv_eq_ediv_of_nonneg _ (by decide)]
 omega
theorem qW_:∀ (k u:Nat),u<128^(k+1)→(digs u).length≤k+1
 | k,u,h=>by
  unfold digs
  split
  ·simp
  ·cases k with
   | zero=>simp at h;omega
   | succ k =>
    have:=qW_ k (u/128) (by rw[Nat.pow_succ] at h;omega)
    simp only[List.length_cons];omega
theorem bd_ {u:Nat} (h:isU u):(digs u).length≤10:=qW_ 9 u (by unfold isU at h;omega)
theorem wP_ (u:Nat):0<(digs u).length:=by unfold digs;split<;>simp
theorem ro_ {u:Nat} (h:isU u):bits .xor .i64 (IntKind.i64.wrap ((u:Int).fdiv (2^shN IntKind.u64 1))) (IntKind.i64.wrap (-IntKind.i64.wrap (bits .and .u64 (u:Int) 1)))=zag u:=by
 unfold isU at h
 have e1:bits .and .u64 (u:Int) 1=((u%2:Nat):Int):=by
  have:=bits_and_u64_nat u 1 h (by omega)
  rwa[Nat.and_one_is_mod] at this
 have e2:(u:Int).fdiv (2^shN IntKind.u64 1)=((u/2:Nat):Int):=by
  rw[sh1,Int.fdiv_eq_ediv_of_nonneg _ (by decide)];omega
 rw[e1,e2]
 simp only[IntKind.wrap_i64]
 have e3:(((u/2:Nat):Int)+9223372036854775808)%18446744073709551616-9223372036854775808=((u/2:Nat):Int):=by omega
 rw[e3]
 by_cases hu:u%2=0
 ·rw[hu,zag,if_pos hu]
  exact lX_ _ (by unfold isI;omega)
 ·have:u%2=1:=by omega
  rw[this,zag,if_neg hu]
  exact lY_ _ (by unfold isI;omega)
theorem rj_ {n:Int} (h:isI n) (h0:0≤n):((zig n:Nat):Int)=IntKind.u64.wrap (2*IntKind.u64.wrap n):=by
 unfold isI at h
 simp only[IntKind.wrap_u64,zig,if_pos h0];omega
theorem yd_ {n:Int} (h:isI n) (h0:n<0):((zig n:Nat):Int)=IntKind.u64.wrap (IntKind.u64.wrap (2*IntKind.u64.wrap (IntKind.i64.wrap (-IntKind.i64.wrap (n+1))))+1):=by
 unfold isI at h
 simp only[IntKind.wrap_u64,IntKind.wrap_i64,zig,if_neg (show ¬ 0≤n by omega)];omega
def bys (l:List UInt8):List D:=l.map a8_
@[simp] theorem bys_append (a b:List UInt8):bys (a++b)=bys a++bys b:=by simp[bys]
@[simp] theorem Fl_:bys []=[]:=rfl
@[simp] theorem DO_ (x:UInt8) (l:List UInt8):bys (x::l)=a8_ x::bys l:=rfl
@[simp] theorem kn_ (l:List UInt8):(bys l).length=l.length:=by simp[bys]
def slB (l:List UInt8):D:=.sl 1 (bys l) l.length false
theorem sc_ (u:Nat):(D.v (.int .u8 (IntKind.u8.wrap (IntKind.u64.wrap ((u:Int).tmod 128+128)))))=a8_ (UInt8.ofNat (u%128+128)):=by
 rw[IntKind.wrap_u8,IntKind.wrap_u64,a8_,UInt8.toNat_ofNat',Int.tmod_eq_emod_of_nonneg (by omega)]
 congr 2
 omega
theorem FL_ (a b:Nat):((max a b:Nat):Int)=max (a:Int) (b:Int):=by omega
end Go.Proofs.YtfgcgagcpnbgmaaGreatDoor
