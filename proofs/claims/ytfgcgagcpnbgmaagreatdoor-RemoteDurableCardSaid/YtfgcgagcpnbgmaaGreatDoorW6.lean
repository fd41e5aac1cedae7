/-
  Joined texts.
-/
import Derived.Test.YtfgcgagcpnbgmaaGreatDoorW5
import Derived.Test.YtfgcgagcpnbgmaaGreatDoorW3
set_option maxRecDepth 10000
set_option maxHeartbeats 4000000
set_option linter.unusedVariables false
set_option linter.unusedSimpArgs false
set_option linter.unusedSectionVars false
namespace Go.Proofs.YtfgcgagcpnbgmaaGreatDoor
open Go.Xe Go.RowKit
def pc (ch:List PanicEntry):Prop:=ch=[{ v:=.iface 36 (.int .i64 20),recovered:=false }]
@[simp] def rdB (bs:List UInt8):Box:=.cells 305 [.d (slB bs)]
attribute [simp] nR_ B7_
theorem ea_:Fun Tryz.prog 236 [.d .any,.d (.v (.bool true))] [] (.d .any) [] fun _=>False:=by
 refine ad_ (pn:=ap_) aa_ Tryz.func236 rfl fun β0=>?_
 simp only[Tryz.f236]
 repeat(first|apply wG|(apply wR;simp -dsimp)|refine aI ?_)
 refine cF (by simp) ?_
 refine WP.skip ?_
 refine finQ.normal ?_
 simp
theorem ic_:Fun Tryz.prog 236 [.d .any,.d (.v (.bool false))] [] (.d .any) [(0,nR_)] pc:=by
 refine ad_ (pn:=⟨pc,[],[]⟩) aa_ Tryz.func236 rfl fun β0=>?_
 simp only[Tryz.f236]
 repeat(first|apply wG|(apply wR;simp -dsimp)|refine aI ?_)
 refine cT (by simp) ?_
 refine WP.region aa_ ?_
 simp -dsimp
 refine vcStop.panic 0 rfl rfl rfl (by simp) (by simp) ?_
 simp -dsimp
 refine finQ.normal ?_
 simp
theorem ds_ (bs:List UInt8) (n:Nat) (h:n≤bs.length):Fun Tryz.prog 256 [.ptr 1000 0,.d (.v (.int .i64 n))] [(1000,rdB bs)] (.d (slB (bs.take n))) [(1000,rdB (bs.drop n))] fun _=>False:=by
 refine ad_ (pn:=ap_) aa_ Tryz.func256 rfl fun β0=>?_
 simp only[Tryz.f256]
 have e1:bys (bs.take n)=(bys bs).take n:=by rw[bys,bys,List.map_take]
 have e2:bys (bs.drop n)=(bys bs).drop n:=by rw[bys,bys,List.map_drop]
 have e3:((bs.length:Int)-n).toNat=bs.length-n:=by omega
 have e4:min n bs.length=n:=by omega
 repeat(first|apply wG|(apply wR;simp -dsimp)|refine aI ?_)
 refine vcStop.call au_ (ea_) (rl []) rfl rfl (by simp[h,BoxLeq]) (af_ (by simp[h,BoxLeq]) rfl (by first|rfl|(simp[h,BoxLeq];done)) (by simp[h,BoxLeq]) (by simp[h,BoxLeq])) (fun _ h=>h.elim) (fun ⟨_,h⟩=>h.elim) (fun ⟨_,h⟩=>h.elim) (by simp[h,BoxLeq]) ?_
 simp -dsimp
 repeat(first|apply wG|(apply wR;simp -dsimp)|refine aI ?_)
 refine WP.ret (bd_ (S':=mkS 32 [(4,.d (slB (bs.take n)))] [(1000,rdB (bs.drop n))]) (ae_ [] (by simp[e1,e4]) (by simp[e2,e3];exact List.take_of_length_le (by simp))) ?_)
 simp
theorem wi_ (bs:List UInt8) (n:Nat) (h:bs.length<n):Fun Tryz.prog 256 [.ptr 1000 0,.d (.v (.int .i64 n))] [(1000,rdB bs)] (.d (slB [0])) [(1000,rdB []),(0,nR_)] pc:=by
 refine ad_ (pn:=⟨pc,[],[]⟩) aa_ Tryz.func256 rfl fun β0=>?_
 simp only[Tryz.f256]
 have hn:¬ n≤bs.length:=by omega
 repeat(first|apply wG|(apply wR;simp -dsimp)|refine aI ?_)
 refine vcStop.call au_ (ic_) (rl [(0,600)]) rfl rfl (by simp[hn,BoxLeq]) (af_ (by simp[hn,BoxLeq]) rfl (by first|rfl|(simp[hn,BoxLeq];done)) (by simp[hn,BoxLeq]) (by simp[hn,BoxLeq])) (fun _ h=>by first|exact h|exact⟨by assumption,h⟩) (fun _ _ h=>by cases h) (fun _ _ _=>rfl) (by simp[hn,BoxLeq]) ?_
 simp -dsimp
 refine aQ_ 600 (by simp)
end Go.Proofs.YtfgcgagcpnbgmaaGreatDoor
namespace Go.Proofs.YtfgcgagcpnbgmaaGreatDoor
open Go.Xe Go.RowKit
def fd_:Nat→Nat→List UInt8→Option (Nat×List UInt8)
 | _,_,[]=>none
 | i,u,c::r=>if (i=0∨c.toNat≠0)∧(i<9∨c.toNat≤1) then (if c.toNat<128 then some (u+c.toNat%128*128^i,r) else fd_ (i+1) (u+c.toNat%128*128^i) r) else none
set_option maxRecDepth 100000 in
theorem dc_ (c:UInt8):bits .and .u8 (c.toNat:Int) 127=((c.toNat%128:Nat):Int):=by
 have:∀ c:Fin 256,bits .and .u8 ((c.val:Nat):Int) 127=((c.val%128:Nat):Int):=by decide
 exact this ⟨c.toNat,c.toNat_lt⟩
theorem p7 (i:Nat):128^i=2^(7*i):=by rw[Nat.pow_mul]
theorem kg_ {i u:Nat} {c:UInt8} (hi:i≤9) (hu:u<128^i) (hc:i<9∨c.toNat≤1) :
  bits .or .u64 (u:Int) (IntKind.u64.wrap (IntKind.u64.wrap ((c.toNat%128:Nat):Int)*2^shN .u64 (7*(i:Int))))=((u+c.toNat%128*128^i:Nat):Int)∧u+c.toNat%128*128^i<18446744073709551616:=by
 have hm:c.toNat%128<128:=Nat.mod_lt _ (by omega)
 have hs:shN .u64 (7*(i:Int))=7*i:=by
  show min (7*(i:Int)).toNat 64=7*i
  omega
 have hlt:c.toNat%128*128^i+u<18446744073709551616:=by
  rcases hc with h|h
  ·have h1:128^i≤128^8:=Nat.pow_le_pow_right (by omega) (by omega)
   have h2:c.toNat%128*128^i≤127*128^8:=Nat.mul_le_mul (by omega) h1
   have h3:(128:Nat)^8=72057594037927936:=by decide
   omega
  ·have h1:128^i≤128^9:=Nat.pow_le_pow_right (by omega) hi
   have h2:c.toNat%128*128^i≤1*128^9:=Nat.mul_le_mul (by omega) h1
   have h3:(128:Nat)^9=9223372036854775808:=by decide
   omega
 have hw:IntKind.u64.wrap ((c.toNat%128:Nat):Int)=((c.toNat%128:Nat):Int):=IntWalk.u64_in _ (by omega)
 have hw2:IntKind.u64.wrap (((c.toNat%128:Nat):Int)*2^(7*i))=((c.toNat%128*128^i:Nat):Int):=by
  have e:(((c.toNat%128:Nat):Int)*2^(7*i))=((c.toNat%128*128^i:Nat):Int):=by rw[p7];push_cast;rfl
  rw[e]
  exact IntWalk.u64_in _ (by omega)
 refine⟨?_,by omega⟩
 rw[hs,hw,hw2,bits_or_u64_nat _ _ (by omega) (by omega)]
 have h:=Nat.shiftLeft_add_eq_or_of_lt (b:=u) (i:=7*i) (by rw[← p7];exact hu) (c.toNat%128)
 rw[Nat.shiftLeft_eq,← p7] at h
 rw[Nat.or_comm,← h,Nat.add_comm]
theorem eR_:∀ (r:List UInt8) (i u:Nat) {x:Nat} {r':List UInt8},fd_ i u r=some (x,r')→r'.length<r.length
 | [],_,_,_,_,h=>by rw[fd_] at h;cases h
 | c::r,i,u,x,r',h=>by
  rw[fd_] at h
  split at h
  ·split at h
   ·cases h;simp
   ·have:=eR_ r _ _ h;simp;omega
  ·cases h
@[local simp] theorem kL_ (c:UInt8):aN_ c=.v (.int .u8 c.toNat):=rfl
def s46 (i u:Nat) (bs:List UInt8):St:=mkS 38 [(0,.ptr 1000 0),(2,.d (.v (.int .u64 u))),(3,.d (.v (.int .i64 i)))] [(1000,rdB bs)]
theorem s1_ (bs:List UInt8) {x:Nat} {r':List UInt8} (h:fd_ 0 0 bs=some (x,r')):Fun Tryz.prog 258 [.ptr 1000 0] [(1000,rdB bs)] (.d (.v (.int .u64 x))) [(1000,rdB r')] fun _=>False:=by
 refine ad_ (pn:=ap_) aa_ Tryz.func258 rfl fun β0=>?_
 simp only[Tryz.f258]
 repeat(first|apply wG|(apply wR;simp -dsimp)|refine aI ?_)
 refine ai_ (fun m S=>∃ i u r,m=r.length∧i≤9∧u<128^i∧fd_ i u r=some (x,r')∧S=s46 i u r) bs.length (S0:=s46 0 0 bs) (ae_ [] (by simp[s46]) (by simp[s46])) ⟨0,0,bs,rfl,by omega,by simp,h,rfl⟩ ?_
 rintro _ _ ⟨i,u,r,rfl,hi,hu,hp,rfl⟩
 simp -dsimp[s46]
 cases r with
 | nil=>rw[fd_] at hp;cases hp
 | cons c r =>
  rw[fd_] at hp
  split at hp
  ·rename_i hc
   obtain⟨hst,hbd⟩:=kg_ hi hu hc.2
   have hst':bits .or .u64 (u:Int) (IntKind.u64.wrap (IntKind.u64.wrap ((c.toNat:Int)%128)*2^shN .u64 (7*(i:Int))))=(u:Int)+(c.toNat:Int)%128*128^i:=by simpa using hst
   have e7:IntKind.i64.wrap (7*(i:Int))=7*(i:Int):=IntWalk.i64_in _ (by omega)
   have e8:IntKind.i64.wrap ((i:Int)+1)=(i:Int)+1:=IntWalk.i64_in _ (by omega)
   have hnx:¬ c.toNat<128→i+1≤9:=by omega
   have hun:u+c.toNat%128*128^i<128^(i+1):=by
    have h1:c.toNat%128*128^i≤127*128^i:=Nat.mul_le_mul_right _ (by omega)
    rw[Nat.pow_succ];omega
   have hci:i=0∨(¬ i=0∧¬ c.toNat=0∧i<9)∨(¬ i=0∧¬ c.toNat=0∧i=9∧c.toNat≤1):=by omega
   rcases hci with h0|⟨h0,hc0,h9⟩|⟨h0,hc0,h9,hc1⟩
   ·have h0':decide (i=0)=true:=by simp[h0]
    have h9':(i:Int)<9:=by omega
    repeat(first|apply wG|(apply wR;simp -dsimp)|refine aI ?_)
    refine vcStop.call aE_ (ds_ (c::r) 1 (by simp)) (rl []) rfl rfl (by simp[BoxLeq]) (af_ (by simp[BoxLeq]) rfl (by first|rfl|(simp[BoxLeq];done)) (by simp[BoxLeq]) (by simp[BoxLeq])) (fun _ h=>h.elim) (fun ⟨_,h⟩=>h.elim) (fun ⟨_,h⟩=>h.elim) (by simp[BoxLeq]) ?_
    simp -dsimp
    repeat(first|apply wG|(apply wR;simp -dsimp[h0',h9',e7,dc_,hst'])|refine aI ?_)
    refine vcStop.call au_ (ea_) (rl []) rfl rfl (by simp[h0',h9',BoxLeq]) (af_ (by simp[h0',h9',BoxLeq]) rfl (by first|rfl|(simp[h0',h9',BoxLeq];done)) (by simp[h0',h9',BoxLeq]) (by simp[h0',h9',BoxLeq])) (fun _ h=>h.elim) (fun ⟨_,h⟩=>h.elim) (fun ⟨_,h⟩=>h.elim) (by simp[h0',h9',BoxLeq]) ?_
    simp -dsimp
    repeat(first|apply wG|(apply wR;simp -dsimp[e7,dc_,hst'])|refine aI ?_)
    refine WP.cond (b:=decide (c.toNat<128)) (by simp[show ((c.toNat:Int)<128)↔c.toNat<128 by omega]) (fun hb=>?_) (fun hb=>?_)
    ·have hb:=of_decide_eq_true hb
     rw[if_pos hb] at hp
     cases hp
     repeat(first|apply wG|(apply wR;simp -dsimp)|refine aI ?_)
     refine WP.ret (finQ.ret ?_)
     simp -dsimp
    ·have hb:=of_decide_eq_false hb
     rw[if_neg hb] at hp
     refine WP.skip ?_
     simp -dsimp
     repeat(first|apply wG|(apply wR;simp -dsimp)|refine aI ?_)
     refine loopW.next (s46 (i+1) (u+c.toNat%128*128^i) r) (ae_ [] (by simp[s46,e8]) (by simp[s46])) r.length (by simp) ⟨i+1,_,r,rfl,hnx hb,hun,hp,rfl⟩
   ·have h9':(i:Int)<9:=by omega
    repeat(first|apply wG|(apply wR;simp -dsimp)|refine aI ?_)
    refine vcStop.call aE_ (ds_ (c::r) 1 (by simp)) (rl []) rfl rfl (by simp[BoxLeq]) (af_ (by simp[BoxLeq]) rfl (by first|rfl|(simp[BoxLeq];done)) (by simp[BoxLeq]) (by simp[BoxLeq])) (fun _ h=>h.elim) (fun ⟨_,h⟩=>h.elim) (fun ⟨_,h⟩=>h.elim) (by simp[BoxLeq]) ?_
    simp -dsimp
    repeat(first|apply wG|(apply wR;simp -dsimp[h0,hc0,h9',e7,dc_,hst'])|refine aI ?_)
    refine vcStop.call au_ (ea_) (rl []) rfl rfl (by simp[h0,hc0,h9',BoxLeq]) (af_ (by simp[h0,hc0,h9',BoxLeq]) rfl (by first|rfl|(simp[h0,hc0,h9',BoxLeq];done)) (by simp[h0,hc0,h9',BoxLeq]) (by simp[h0,hc0,h9',BoxLeq])) (fun _ h=>h.elim) (fun ⟨_,h⟩=>h.elim) (fun ⟨_,h⟩=>h.elim) (by simp[h0,hc0,h9',BoxLeq]) ?_
    simp -dsimp
    repeat(first|apply wG|(apply wR;simp -dsimp[e7,dc_,hst'])|refine aI ?_)
    refine WP.cond (b:=decide (c.toNat<128)) (by simp[show ((c.toNat:Int)<128)↔c.toNat<128 by omega]) (fun hb=>?_) (fun hb=>?_)
    ·have hb:=of_decide_eq_true hb
     rw[if_pos hb] at hp
     cases hp
     repeat(first|apply wG|(apply wR;simp -dsimp)|refine aI ?_)
     refine WP.ret (finQ.ret ?_)
     simp -dsimp
    ·have hb:=of_decide_eq_false hb
     rw[if_neg hb] at hp
     refine WP.skip ?_
     simp -dsimp
     repeat(first|apply wG|(apply wR;simp -dsimp)|refine aI ?_)
     refine loopW.next (s46 (i+1) (u+c.toNat%128*128^i) r) (ae_ [] (by simp[s46,e8]) (by simp[s46])) r.length (by simp) ⟨i+1,_,r,rfl,hnx hb,hun,hp,rfl⟩
   ·have h9':¬ (i:Int)<9:=by omega
    have hc1':(c.toNat:Int)≤1:=by omega
    repeat(first|apply wG|(apply wR;simp -dsimp)|refine aI ?_)
    refine vcStop.call aE_ (ds_ (c::r) 1 (by simp)) (rl []) rfl rfl (by simp[BoxLeq]) (af_ (by simp[BoxLeq]) rfl (by first|rfl|(simp[BoxLeq];done)) (by simp[BoxLeq]) (by simp[BoxLeq])) (fun _ h=>h.elim) (fun ⟨_,h⟩=>h.elim) (fun ⟨_,h⟩=>h.elim) (by simp[BoxLeq]) ?_
    simp -dsimp
    repeat(first|apply wG|(apply wR;simp -dsimp[h0,hc0,h9',hc1',e7,dc_,hst'])|refine aI ?_)
    refine vcStop.call au_ (ea_) (rl []) rfl rfl (by simp[h0,hc0,h9',hc1',BoxLeq]) (af_ (by simp[h0,hc0,h9',hc1',BoxLeq]) rfl (by first|rfl|(simp[h0,hc0,h9',hc1',BoxLeq];done)) (by simp[h0,hc0,h9',hc1',BoxLeq]) (by simp[h0,hc0,h9',hc1',BoxLeq])) (fun _ h=>h.elim) (fun ⟨_,h⟩=>h.elim) (fun ⟨_,h⟩=>h.elim) (by simp[h0,hc0,h9',hc1',BoxLeq]) ?_
    simp -dsimp
    repeat(first|apply wG|(apply wR;simp -dsimp[e7,dc_,hst'])|refine aI ?_)
    refine WP.cond (b:=decide (c.toNat<128)) (by simp[show ((c.toNat:Int)<128)↔c.toNat<128 by omega]) (fun hb=>?_) (fun hb=>?_)
    ·have hb:=of_decide_eq_true hb
     rw[if_pos hb] at hp
     cases hp
     repeat(first|apply wG|(apply wR;simp -dsimp)|refine aI ?_)
     refine WP.ret (finQ.ret ?_)
     simp -dsimp
    ·have hb:=of_decide_eq_false hb
     rw[if_neg hb] at hp
     refine WP.skip ?_
     simp -dsimp
     repeat(first|apply wG|(apply wR;simp -dsimp)|refine aI ?_)
     refine loopW.next (s46 (i+1) (u+c.toNat%128*128^i) r) (ae_ [] (by simp[s46,e8]) (by simp[s46])) r.length (by simp) ⟨i+1,_,r,rfl,hnx hb,hun,hp,rfl⟩
  ·cases hp
theorem wg_ (bs:List UInt8) (h:fd_ 0 0 bs=none):Fun Tryz.prog 258 [.ptr 1000 0] [(1000,rdB bs)] (.d (.v (.int .u64 0))) [(1000,rdB []),(0,nR_)] pc:=by
 refine ad_ (pn:=⟨pc,[],[]⟩) aa_ Tryz.func258 rfl fun β0=>?_
 simp only[Tryz.f258]
 repeat(first|apply wG|(apply wR;simp -dsimp)|refine aI ?_)
 refine ai_ (fun m S=>∃ i u r,m=r.length∧i≤9∧u<128^i∧fd_ i u r=none∧S=s46 i u r) bs.length (S0:=s46 0 0 bs) (ae_ [] (by simp[s46]) (by simp[s46])) ⟨0,0,bs,rfl,by omega,by simp,h,rfl⟩ ?_
 rintro _ _ ⟨i,u,r,rfl,hi,hu,hp,rfl⟩
 simp -dsimp[s46]
 cases r with
 | nil =>
  repeat(first|apply wG|(apply wR;simp -dsimp)|refine aI ?_)
  refine vcStop.call aE_ (wi_ [] 1 (by simp)) (rl [(0,600)]) rfl rfl (by simp[BoxLeq]) (af_ (by simp[BoxLeq]) rfl (by first|rfl|(simp[BoxLeq];done)) (by simp[BoxLeq]) (by simp[BoxLeq])) (fun _ h=>by first|exact h|exact⟨by assumption,h⟩) (fun _ _ h=>by cases h) (fun _ _ _=>rfl) (by simp[BoxLeq]) ?_
  simp -dsimp
  repeat refine aI ?_
  refine aQ_ 600 (by simp)
 | cons c r =>
  rw[fd_] at hp
  split at hp
  ·rename_i hc
   obtain⟨hst,hbd⟩:=kg_ hi hu hc.2
   have hst':bits .or .u64 (u:Int) (IntKind.u64.wrap (IntKind.u64.wrap ((c.toNat:Int)%128)*2^shN .u64 (7*(i:Int))))=(u:Int)+(c.toNat:Int)%128*128^i:=by simpa using hst
   have e7:IntKind.i64.wrap (7*(i:Int))=7*(i:Int):=IntWalk.i64_in _ (by omega)
   have e8:IntKind.i64.wrap ((i:Int)+1)=(i:Int)+1:=IntWalk.i64_in _ (by omega)
   have hnx:¬ c.toNat<128→i+1≤9:=by omega
   have hun:u+c.toNat%128*128^i<128^(i+1):=by
    have h1:c.toNat%128*128^i≤127*128^i:=Nat.mul_le_mul_right _ (by omega)
    rw[Nat.pow_succ];omega
   have hci:i=0∨(¬ i=0∧¬ c.toNat=0∧i<9)∨(¬ i=0∧¬ c.toNat=0∧i=9∧c.toNat≤1):=by omega
   rcases hci with h0|⟨h0,hc0,h9⟩|⟨h0,hc0,h9,hc1⟩
   ·have h0':decide (i=0)=true:=by simp[h0]
    have h9':(i:Int)<9:=by omega
    repeat(first|apply wG|(apply wR;simp -dsimp)|refine aI ?_)
    refine vcStop.call aE_ (ds_ (c::r) 1 (by simp)) (rl []) rfl rfl (by simp[BoxLeq]) (af_ (by simp[BoxLeq]) rfl (by first|rfl|(simp[BoxLeq];done)) (by simp[BoxLeq]) (by simp[BoxLeq])) (fun _ h=>h.elim) (fun ⟨_,h⟩=>h.elim) (fun ⟨_,h⟩=>h.elim) (by simp[BoxLeq]) ?_
    simp -dsimp
    repeat(first|apply wG|(apply wR;simp -dsimp[h0',h9',e7,dc_,hst'])|refine aI ?_)
    refine vcStop.call au_ (ea_) (rl []) rfl rfl (by simp[h0',h9',BoxLeq]) (af_ (by simp[h0',h9',BoxLeq]) rfl (by first|rfl|(simp[h0',h9',BoxLeq];done)) (by simp[h0',h9',BoxLeq]) (by simp[h0',h9',BoxLeq])) (fun _ h=>h.elim) (fun ⟨_,h⟩=>h.elim) (fun ⟨_,h⟩=>h.elim) (by simp[h0',h9',BoxLeq]) ?_
    simp -dsimp
    repeat(first|apply wG|(apply wR;simp -dsimp[e7,dc_,hst'])|refine aI ?_)
    refine WP.cond (b:=decide (c.toNat<128)) (by simp[show ((c.toNat:Int)<128)↔c.toNat<128 by omega]) (fun hb=>?_) (fun hb=>?_)
    ·have hb:=of_decide_eq_true hb
     rw[if_pos hb] at hp
     cases hp
    ·have hb:=of_decide_eq_false hb
     rw[if_neg hb] at hp
     refine WP.skip ?_
     simp -dsimp
     repeat(first|apply wG|(apply wR;simp -dsimp)|refine aI ?_)
     refine loopW.next (s46 (i+1) (u+c.toNat%128*128^i) r) (ae_ [] (by simp[s46,e8]) (by simp[s46])) r.length (by simp) ⟨i+1,_,r,rfl,hnx hb,hun,hp,rfl⟩
   ·have h9':(i:Int)<9:=by omega
    repeat(first|apply wG|(apply wR;simp -dsimp)|refine aI ?_)
    refine vcStop.call aE_ (ds_ (c::r) 1 (by simp)) (rl []) rfl rfl (by simp[BoxLeq]) (af_ (by simp[BoxLeq]) rfl (by first|rfl|(simp[BoxLeq];done)) (by simp[BoxLeq]) (by simp[BoxLeq])) (fun _ h=>h.elim) (fun ⟨_,h⟩=>h.elim) (fun ⟨_,h⟩=>h.elim) (by simp[BoxLeq]) ?_
    simp -dsimp
    repeat(first|apply wG|(apply wR;simp -dsimp[h0,hc0,h9',e7,dc_,hst'])|refine aI ?_)
    refine vcStop.call au_ (ea_) (rl []) rfl rfl (by simp[h0,hc0,h9',BoxLeq]) (af_ (by simp[h0,hc0,h9',BoxLeq]) rfl (by first|rfl|(simp[h0,hc0,h9',BoxLeq];done)) (by simp[h0,hc0,h9',BoxLeq]) (by simp[h0,hc0,h9',BoxLeq])) (fun _ h=>h.elim) (fun ⟨_,h⟩=>h.elim) (fun ⟨_,h⟩=>h.elim) (by simp[h0,hc0,h9',BoxLeq]) ?_
    simp -dsimp
    repeat(first|apply wG|(apply wR;simp -dsimp[e7,dc_,hst'])|refine aI ?_)
    refine WP.cond (b:=decide (c.toNat<128)) (by simp[show ((c.toNat:Int)<128)↔c.toNat<128 by omega]) (fun hb=>?_) (fun hb=>?_)
    ·have hb:=of_decide_eq_true hb
     rw[if_pos hb] at hp
     cases hp
    ·have hb:=of_decide_eq_false hb
     rw[if_neg hb] at hp
     refine WP.skip ?_
     simp -dsimp
     repeat(first|apply wG|(apply wR;simp -dsimp)|refine aI ?_)
     refine loopW.next (s46 (i+1) (u+c.toNat%128*128^i) r) (ae_ [] (by simp[s46,e8]) (by simp[s46])) r.length (by simp) ⟨i+1,_,r,rfl,hnx hb,hun,hp,rfl⟩
   ·have h9':¬ (i:Int)<9:=by omega
    have hc1':(c.toNat:Int)≤1:=by omega
    repeat(first|apply wG|(apply wR;simp -dsimp)|refine aI ?_)
    refine vcStop.call aE_ (ds_ (c::r) 1 (by simp)) (rl []) rfl rfl (by simp[BoxLeq]) (af_ (by simp[BoxLeq]) rfl (by first|rfl|(simp[BoxLeq];done)) (by simp[BoxLeq]) (by simp[BoxLeq])) (fun _ h=>h.elim) (fun ⟨_,h⟩=>h.elim) (fun ⟨_,h⟩=>h.elim) (by simp[BoxLeq]) ?_
    simp -dsimp
    repeat(first|apply wG|(apply wR;simp -dsimp[h0,hc0,h9',hc1',e7,dc_,hst'])|refine aI ?_)
    refine vcStop.call au_ (ea_) (rl []) rfl rfl (by simp[h0,hc0,h9',hc1',BoxLeq]) (af_ (by simp[h0,hc0,h9',hc1',BoxLeq]) rfl (by first|rfl|(simp[h0,hc0,h9',hc1',BoxLeq];done)) (by simp[h0,hc0,h9',hc1',BoxLeq]) (by simp[h0,hc0,h9',hc1',BoxLeq])) (fun _ h=>h.elim) (fun ⟨_,h⟩=>h.elim) (fun ⟨_,h⟩=>h.elim) (by simp[h0,hc0,h9',hc1',BoxLeq]) ?_
    simp -dsimp
    repeat(first|apply wG|(apply wR;simp -dsimp[e7,dc_,hst'])|refine aI ?_)
    refine WP.cond (b:=decide (c.toNat<128)) (by simp[show ((c.toNat:Int)<128)↔c.toNat<128 by omega]) (fun hb=>?_) (fun hb=>?_)
    ·have hb:=of_decide_eq_true hb
     rw[if_pos hb] at hp
     cases hp
    ·have hb:=of_decide_eq_false hb
     rw[if_neg hb] at hp
     refine WP.skip ?_
     simp -dsimp
     repeat(first|apply wG|(apply wR;simp -dsimp)|refine aI ?_)
     refine loopW.next (s46 (i+1) (u+c.toNat%128*128^i) r) (ae_ [] (by simp[s46,e8]) (by simp[s46])) r.length (by simp) ⟨i+1,_,r,rfl,hnx hb,hun,hp,rfl⟩
  ·rename_i hc
   have hci:(¬ i=0∧c.toNat=0)∨(¬ i=0∧¬ c.toNat=0∧i=9∧1<c.toNat):=by omega
   rcases hci with⟨h0,hc0⟩|⟨h0,hc0,h9,hc1⟩
   ·have hc0':decide (c.toNat=0)=true:=by simp[hc0]
    repeat(first|apply wG|(apply wR;simp -dsimp)|refine aI ?_)
    refine vcStop.call aE_ (ds_ (c::r) 1 (by simp)) (rl []) rfl rfl (by simp[BoxLeq]) (af_ (by simp[BoxLeq]) rfl (by first|rfl|(simp[BoxLeq];done)) (by simp[BoxLeq]) (by simp[BoxLeq])) (fun _ h=>h.elim) (fun ⟨_,h⟩=>h.elim) (fun ⟨_,h⟩=>h.elim) (by simp[BoxLeq]) ?_
    simp -dsimp
    repeat(first|apply wG|(apply wR;simp -dsimp[h0,hc0'])|refine aI ?_)
    refine vcStop.call au_ (ic_) (rl [(0,600)]) rfl rfl (by simp[h0,hc0',BoxLeq]) (af_ (by simp[h0,hc0',BoxLeq]) rfl (by first|rfl|(simp[h0,hc0',BoxLeq];done)) (by simp[h0,hc0',BoxLeq]) (by simp[h0,hc0',BoxLeq])) (fun _ h=>by first|exact h|exact⟨by assumption,h⟩) (fun _ _ h=>by cases h) (fun _ _ _=>rfl) (by simp[h0,hc0',BoxLeq]) ?_
    simp -dsimp
    refine aQ_ 600 (by simp)
   ·have h9':¬ (i:Int)<9:=by omega
    have hc1':¬ (c.toNat:Int)≤1:=by omega
    repeat(first|apply wG|(apply wR;simp -dsimp)|refine aI ?_)
    refine vcStop.call aE_ (ds_ (c::r) 1 (by simp)) (rl []) rfl rfl (by simp[BoxLeq]) (af_ (by simp[BoxLeq]) rfl (by first|rfl|(simp[BoxLeq];done)) (by simp[BoxLeq]) (by simp[BoxLeq])) (fun _ h=>h.elim) (fun ⟨_,h⟩=>h.elim) (fun ⟨_,h⟩=>h.elim) (by simp[BoxLeq]) ?_
    simp -dsimp
    repeat(first|apply wG|(apply wR;simp -dsimp[h0,hc0,h9',hc1'])|refine aI ?_)
    refine vcStop.call au_ (ic_) (rl [(0,600)]) rfl rfl (by simp[h0,hc0,h9',hc1',BoxLeq]) (af_ (by simp[h0,hc0,h9',hc1',BoxLeq]) rfl (by first|rfl|(simp[h0,hc0,h9',hc1',BoxLeq];done)) (by simp[h0,hc0,h9',hc1',BoxLeq]) (by simp[h0,hc0,h9',hc1',BoxLeq])) (fun _ h=>by first|exact h|exact⟨by assumption,h⟩) (fun _ _ h=>by cases h) (fun _ _ _=>rfl) (by simp[h0,hc0,h9',hc1',BoxLeq]) ?_
    simp -dsimp
    refine aQ_ 600 (by simp)
end Go.Proofs.YtfgcgagcpnbgmaaGreatDoor
namespace Go.Proofs.YtfgcgagcpnbgmaaGreatDoor
open Go.Xe Go.RowKit
def iM_ (bs:List UInt8):Option (Nat×List UInt8) :=
 match fd_ 0 0 bs with
 | some (u,r)=>if u≤r.length then some (u,r) else none
 | none=>none
theorem we_ (bs:List UInt8) (hb:bs.length≤1000000000000) {n:Nat} {r:List UInt8} (h:iM_ bs=some (n,r)):Fun Tryz.prog 259 [.ptr 1000 0] [(1000,rdB bs)] (.d (.v (.int .i64 n))) [(1000,rdB r)] fun _=>False:=by
 rw[iM_] at h
 split at h
 ·rename_i u r1 hp
  split at h
  ·rename_i hle
   cases h
   have hr:=eR_ bs 0 0 hp
   have e1:IntKind.u64.wrap (r.length:Int)=(r.length:Int):=IntWalk.u64_in _ (by omega)
   have e2:IntKind.i64.wrap (n:Int)=(n:Int):=IntWalk.i64_in _ (by omega)
   refine ad_ (pn:=ap_) aa_ Tryz.func259 rfl fun β0=>?_
   simp only[Tryz.f259]
   repeat(first|apply wG|(apply wR;simp -dsimp)|refine aI ?_)
   refine vcStop.call bW_ (s1_ bs hp) (rl []) rfl rfl (by simp[BoxLeq]) (af_ (by simp[BoxLeq]) rfl (by first|rfl|(simp[BoxLeq];done)) (by simp[BoxLeq]) (by simp[BoxLeq])) (fun _ h=>h.elim) (fun ⟨_,h⟩=>h.elim) (fun ⟨_,h⟩=>h.elim) (by simp[BoxLeq]) ?_
   simp -dsimp
   repeat(first|apply wG|(apply wR;simp -dsimp[e1])|refine aI ?_)
   refine vcStop.call au_ (ea_) (rl []) rfl rfl (by simp[hle,BoxLeq]) (af_ (by simp[hle,BoxLeq]) rfl (by first|rfl|(simp[hle,BoxLeq];done)) (by simp[hle,BoxLeq]) (by simp[hle,BoxLeq])) (fun _ h=>h.elim) (fun ⟨_,h⟩=>h.elim) (fun ⟨_,h⟩=>h.elim) (by simp[hle,BoxLeq]) ?_
   simp -dsimp
   repeat(first|apply wG|(apply wR;simp -dsimp[e2])|refine aI ?_)
   refine WP.ret (bd_ (S':=mkS 18 [(2,.d (.v (.int .i64 n)))] [(1000,rdB r)]) (ae_ [] (by simp) (by simp)) ?_)
   simp
  ·cases h
 ·cases h
theorem wf_ (bs:List UInt8) (hb:bs.length≤1000000000000) (h:iM_ bs=none):Fun Tryz.prog 259 [.ptr 1000 0] [(1000,rdB bs)] (.d (.v (.int .i64 0))) [(1000,rdB []),(0,nR_)] pc:=by
 rw[iM_] at h
 split at h
 ·rename_i u r hp
  split at h
  ·cases h
  ·rename_i hle
   have hr:=eR_ bs 0 0 hp
   have e1:IntKind.u64.wrap (r.length:Int)=(r.length:Int):=IntWalk.u64_in _ (by omega)
   refine ad_ (pn:=⟨pc,[],[]⟩) aa_ Tryz.func259 rfl fun β0=>?_
   simp only[Tryz.f259]
   repeat(first|apply wG|(apply wR;simp -dsimp)|refine aI ?_)
   refine vcStop.call bW_ (s1_ bs hp) (rl []) rfl rfl (by simp[BoxLeq]) (af_ (by simp[BoxLeq]) rfl (by first|rfl|(simp[BoxLeq];done)) (by simp[BoxLeq]) (by simp[BoxLeq])) (fun _ h=>h.elim) (fun ⟨_,h⟩=>h.elim) (fun ⟨_,h⟩=>h.elim) (by simp[BoxLeq]) ?_
   simp -dsimp
   repeat(first|apply wG|(apply wR;simp -dsimp[e1])|refine aI ?_)
   refine vcStop.call au_ (ic_) (rl [(0,600)]) rfl rfl (by simp[hle,BoxLeq]) (af_ (by simp[hle,BoxLeq]) rfl (by first|rfl|(simp[hle,BoxLeq];done)) (by simp[hle,BoxLeq]) (by simp[hle,BoxLeq])) (fun _ h=>by first|exact h|exact⟨by assumption,h⟩) (fun _ _ h=>by cases h) (fun _ _ _=>rfl) (by simp[hle,BoxLeq]) ?_
   simp -dsimp
   refine aQ_ 600 (by simp)
 ·rename_i hp
  refine ad_ (pn:=⟨pc,[],[]⟩) aa_ Tryz.func259 rfl fun β0=>?_
  simp only[Tryz.f259]
  repeat(first|apply wG|(apply wR;simp -dsimp)|refine aI ?_)
  refine vcStop.call bW_ (wg_ bs hp) (rl [(0,600)]) rfl rfl (by simp[BoxLeq]) (af_ (by simp[BoxLeq]) rfl (by first|rfl|(simp[BoxLeq];done)) (by simp[BoxLeq]) (by simp[BoxLeq])) (fun _ h=>by first|exact h|exact⟨by assumption,h⟩) (fun _ _ h=>by cases h) (fun _ _ _=>rfl) (by simp[BoxLeq]) ?_
  simp -dsimp
  refine aQ_ 600 (by simp)
end Go.Proofs.YtfgcgagcpnbgmaaGreatDoor
namespace Go.Proofs.YtfgcgagcpnbgmaaGreatDoor
open Go.Xe Go.RowKit
def pMany (p:List UInt8→Option (V×List UInt8)):Nat→List UInt8→Option (List V×List UInt8)
 | 0,r=>some ([],r)
 | n+1,r=>match p r with
  | none=>none
  | some (v,r')=>match pMany p n r' with
   | none=>none
   | some (l,r'')=>some (v::l,r'')
def pVal:Nat→List UInt8→Option (V×List UInt8)
 | _,[]=>none
 | 0,c::r=>if c.toNat=1 then (fd_ 0 0 r).map fun x=>(.mk 1 (zag x.1) ⟨#[]⟩ [],x.2) else if c.toNat=2 then (iM_ r).map fun x=>(.mk 2 0 ⟨(x.2.take x.1).toArray⟩ [],x.2.drop x.1) else none
 | b+1,c::r=>if c.toNat=1 then (fd_ 0 0 r).map fun x=>(.mk 1 (zag x.1) ⟨#[]⟩ [],x.2) else if c.toNat=2 then (iM_ r).map fun x=>(.mk 2 0 ⟨(x.2.take x.1).toArray⟩ [],x.2.drop x.1)
   else if c.toNat=3 then (iM_ r).bind fun x=>(pMany (pVal b) x.1 x.2).map fun y=>(.mk 3 0 ⟨#[]⟩ y.1,y.2) else none
theorem o0_ (b:Nat) {c:UInt8} (r:List UInt8) (h:c.toNat=1):pVal b (c::r)=(fd_ 0 0 r).map fun x=>(.mk 1 (zag x.1) ⟨#[]⟩ [],x.2):=by cases b<;>simp[pVal,h]
theorem oZ_ (b:Nat) {c:UInt8} (r:List UInt8) (h:c.toNat=2):pVal b (c::r)=(iM_ r).map fun x=>(.mk 2 0 ⟨(x.2.take x.1).toArray⟩ [],x.2.drop x.1):=by cases b<;>simp[pVal,h]
theorem ny_ {c:UInt8} (r:List UInt8) (h:c.toNat=3):pVal 0 (c::r)=none:=by simp[pVal,h]
theorem oY_ (b:Nat) {c:UInt8} (r:List UInt8) (h:c.toNat=3):pVal (b+1) (c::r)=(iM_ r).bind fun x=>(pMany (pVal b) x.1 x.2).map fun y=>(.mk 3 0 ⟨#[]⟩ y.1,y.2):=by simp[pVal,h]
theorem sa_ (b:Nat) {c:UInt8} (r:List UInt8) (h1:c.toNat≠1) (h2:c.toNat≠2) (h3:c.toNat≠3):pVal b (c::r)=none:=by cases b<;>simp[pVal,h1,h2,h3]
theorem fv_ {bs:List UInt8} {n:Nat} {r:List UInt8} (h:iM_ bs=some (n,r)):n≤r.length∧r.length<bs.length:=by
 rw[iM_] at h
 split at h
 ·rename_i hp
  split at h
  ·rename_i hle
   cases h
   exact⟨hle,eR_ _ _ _ hp⟩
  ·cases h
 ·cases h
theorem o1_ {p:List UInt8→Option (V×List UInt8)} (hp:∀ r v r',p r=some (v,r')→r'.length<r.length):∀ (n:Nat) (r:List UInt8) {l:List V} {r':List UInt8},pMany p n r=some (l,r')→r'.length+n≤r.length∧l.length=n
 | 0,r,l,r',h=>by rw[pMany] at h;cases h;exact⟨Nat.le_refl _,rfl⟩
 | n+1,r,l,r',h=>by
  rw[pMany] at h
  split at h
  ·cases h
  ·rename_i v r1 h1
   split at h
   ·cases h
   ·rename_i l2 r2 h2
    cases h
    have:=hp _ _ _ h1
    have:=o1_ hp n r1 h2
    exact⟨by omega,by simp[this.2]⟩
theorem sb_:∀ (b:Nat) (bs:List UInt8) (v:V) (r:List UInt8),pVal b bs=some (v,r)→r.length<bs.length
 | b,[],v,r,h=>by cases b<;>(rw[pVal] at h;cases h)
 | b,c::s,v,r,h=>by
  by_cases h1:c.toNat=1
  ·rw[o0_ b s h1] at h
   cases hx:fd_ 0 0 s with
   | none=>rw[hx] at h;cases h
   | some x=>rw[hx] at h;cases h;have:=eR_ _ _ _ hx;simp;omega
  by_cases h2:c.toNat=2
  ·rw[oZ_ b s h2] at h
   cases hx:iM_ s with
   | none=>rw[hx] at h;cases h
   | some x=>rw[hx] at h;cases h;have:=fv_ hx;simp;omega
  by_cases h3:c.toNat=3
  ·cases b with
   | zero=>rw[ny_ s h3] at h;cases h
   | succ b =>
    rw[oY_ b s h3] at h
    cases hx:iM_ s with
    | none=>rw[hx] at h;cases h
    | some x =>
     rw[hx,Option.bind_some] at h
     cases hy:pMany (pVal b) x.1 x.2 with
     | none=>rw[hy] at h;cases h
     | some y =>
      rw[hy] at h
      cases h
      have:=fv_ hx
      have:=(o1_ (sb_ b) _ _ hy).1
      simp;omega
  ·rw[sa_ b s h1 h2 h3] at h;cases h
theorem sc_:∀ (r:List UInt8) (i u:Nat) {x:Nat} {r':List UInt8},fd_ i u r=some (x,r')→i≤9→u<128^i→isU x
 | [],_,_,_,_,h,_,_=>by rw[fd_] at h;cases h
 | c::r,i,u,x,r',h,hi,hu=>by
  rw[fd_] at h
  split at h
  ·rename_i hc
   obtain⟨_,hbd⟩:=kg_ hi hu hc.2
   split at h
   ·cases h;exact hbd
   ·have h1:c.toNat%128*128^i≤127*128^i:=Nat.mul_le_mul_right _ (by omega)
    exact sc_ r _ _ h (by omega) (by rw[Nat.pow_succ];omega)
  ·cases h
@[simp] theorem DA_ (l:List UInt8):List.map (unB∘AV.d) (bys l)=l:=by
 induction l with
 | nil=>rfl
 | cons c l ih=>simp only[bys,List.map_cons] at ih ⊢;rw[ih];simp[unB,fi_]
@[simp] theorem yh_ (l:List UInt8):(∀ a∈bys l,a=aN_ (unB (.d a)))↔True:=by
 refine⟨fun _=>trivial,fun _ a ha=>?_⟩
 obtain⟨c,_,rfl⟩:=List.mem_map.1 ha
 rw[rp_]
def rv:Option (V×List UInt8)→D
 | some x=>x.1.d
 | none=>(V.mk 0 0 ⟨#[]⟩ []).d
def ro:Option (V×List UInt8)→Bxs
 | some x=>[(1000,rdB x.2)]
 | none=>[(1000,rdB []),(0,nR_)]
def rk (o:Option (V×List UInt8)) (ch:List PanicEntry):Prop:=o=none∧pc ch
theorem lI_ {b:Nat} {bs:List UInt8} {d:Int} (h:Fun Tryz.prog 235 [.ptr 1000 0,.d (.v (.int .i64 d))] [(1000,rdB bs)] (.d (rv (pVal b bs))) (ro (pVal b bs)) (rk (pVal b bs))) {v:V} {r:List UInt8} (hp:pVal b bs=some (v,r)) :
  Fun Tryz.prog 235 [.ptr 1000 0,.d (.v (.int .i64 d))] [(1000,rdB bs)] (.d v.d) [(1000,rdB r)] fun _=>False:=by
 rw[hp] at h
 intro w I β vs hm hd
 refine Calls.mono (h w I β vs hm hd) fun e w' he=>?_
 cases e with
 | returned v=>exact he
 | panicked ch=>exact absurd he.1.1 (by simp)
 | outgrown=>exact he
theorem lJ_ {b:Nat} {bs:List UInt8} {d:Int} (h:Fun Tryz.prog 235 [.ptr 1000 0,.d (.v (.int .i64 d))] [(1000,rdB bs)] (.d (rv (pVal b bs))) (ro (pVal b bs)) (rk (pVal b bs))) (hp:pVal b bs=none) :
  Fun Tryz.prog 235 [.ptr 1000 0,.d (.v (.int .i64 d))] [(1000,rdB bs)] (.d (V.mk 0 0 ⟨#[]⟩ []).d) [(1000,rdB []),(0,nR_)] pc:=by
 rw[hp] at h
 intro w I β vs hm hd
 refine Calls.mono (h w I β vs hm hd) fun e w' he=>?_
 cases e with
 | returned v=>exact he
 | panicked ch=>exact⟨he.1.2,he.2⟩
 | outgrown=>exact he
def s32 (d:Int) (n i:Nat) (l:List V) (r:List UInt8):St :=
 mkS 50 [(0,.ptr 1000 0),(1,.d (.v (.int .i64 d))),(4,.ptr 4 0),(36,.d (.v (.int .i64 n))),(37,.d (.v (.int .i64 i)))]
  [(1000,rdB r),(4,.cells 166 [.d (.v (.int .i64 3)),.d (.v (.int .i64 0)),.d (.v (.string ⟨#[]⟩)),.row 500]),(500,.row 166 4 l.length ((aB_ l).map .d))]
def xJ_ (b:Nat):Prop:=b≤16→∀ (bs:List UInt8) (d:Int),d=16-b→bs.length≤1000000000000 →
  Fun Tryz.prog 235 [.ptr 1000 0,.d (.v (.int .i64 d))] [(1000,rdB bs)] (.d (rv (pVal b bs))) (ro (pVal b bs)) (rk (pVal b bs))
theorem wl_ (b:Nat) (ih:∀ b',b=b'+1→xJ_ b'):xJ_ b:=by
  intro hb16 bs d hd hbs
  generalize ho:pVal b bs=o
  refine ad_ (pn:=⟨rk o,[],[]⟩) aa_ Tryz.func235 rfl fun β0=>?_
  simp only[Tryz.f235]
  cases bs with
  | nil =>
   have hn:o=none:=by rw[← ho];cases b<;>rfl
   repeat(first|apply wG|(apply wR;simp -dsimp)|refine aI ?_)
   refine vcStop.call aE_ (wi_ [] 1 (by simp)) (rl [(0,600)]) rfl rfl (by simp[BoxLeq]) (af_ (by simp[BoxLeq]) rfl (by first|rfl|(simp[BoxLeq];done)) (by simp[BoxLeq]) (by simp[BoxLeq])) (fun _ h=>by first|exact h|exact⟨by assumption,h⟩) (fun _ _ h=>by cases h) (fun _ _ _=>rfl) (by simp[BoxLeq]) ?_
   simp -dsimp
   repeat refine aI ?_
   refine aQ_ 600 (by simp)
  | cons c r =>
   have hw:IntKind.i64.wrap (c.toNat:Int)=(c.toNat:Int):=IntWalk.i64_in _ (by have:=c.toNat_lt;omega)
   have hr1:r.length≤1000000000000:=by simp at hbs;omega
   repeat(first|apply wG|(apply wR;simp -dsimp)|refine aI ?_)
   refine vcStop.call aE_ (ds_ (c::r) 1 (by simp)) (rl []) rfl rfl (by simp[BoxLeq]) (af_ (by simp[BoxLeq]) rfl (by first|rfl|(simp[BoxLeq];done)) (by simp[BoxLeq]) (by simp[BoxLeq])) (fun _ h=>h.elim) (fun ⟨_,h⟩=>h.elim) (fun ⟨_,h⟩=>h.elim) (by simp[BoxLeq]) ?_
   simp -dsimp
   repeat(first|apply wG|(apply wR;simp -dsimp[hw])|refine aI ?_)
   refine WP.cond (b:=decide (c.toNat=1)) (by simp[show ((c.toNat:Int)=1)↔c.toNat=1 by omega]) (fun hb=>?_) (fun hb=>?_)
   ·have hb:=of_decide_eq_true hb
    rw[o0_ _ _ hb] at ho
    cases hp:fd_ 0 0 r with
    | none =>
     have hn:o=none:=by rw[← ho,hp];rfl
     repeat(first|apply wG|(apply wR;simp -dsimp)|refine aI ?_)
     refine vcStop.call bW_ (wg_ r hp) (rl [(0,600)]) rfl rfl (by simp[BoxLeq]) (af_ (by simp[BoxLeq]) rfl (by first|rfl|(simp[BoxLeq];done)) (by simp[BoxLeq]) (by simp[BoxLeq])) (fun _ h=>by first|exact h|exact⟨by assumption,h⟩) (fun _ _ h=>by cases h) (fun _ _ _=>rfl) (by simp[BoxLeq]) ?_
     simp -dsimp
     refine ab_ f4_ (wh_ (u:=0) (by unfold isU;omega)) rfl rfl (by simp) ?_
     simp -dsimp
     repeat refine aI ?_
     refine aQ_ 600 (by simp)
    | some x =>
     obtain⟨u,r'⟩:=x
     have hu:=sc_ _ _ _ hp (by omega) (by simp)
     have hn:o=some (.mk 1 (zag u) ⟨#[]⟩ [],r'):=by rw[← ho,hp];rfl
     repeat(first|apply wG|(apply wR;simp -dsimp)|refine aI ?_)
     refine vcStop.call bW_ (s1_ r hp) (rl []) rfl rfl (by simp[BoxLeq]) (af_ (by simp[BoxLeq]) rfl (by first|rfl|(simp[BoxLeq];done)) (by simp[BoxLeq]) (by simp[BoxLeq])) (fun _ h=>h.elim) (fun ⟨_,h⟩=>h.elim) (fun ⟨_,h⟩=>h.elim) (by simp[BoxLeq]) ?_
     simp -dsimp
     refine ab_ f4_ (wh_ hu) rfl rfl (by simp) ?_
     simp -dsimp
     repeat(first|apply wG|(apply wR;simp -dsimp)|refine aI ?_)
     refine WP.ret (ac_ ?_)
     simp -dsimp[hn,hb,rv,ro,V.d,V.cells,aB_]
   have hb1:¬ c.toNat=1:=of_decide_eq_false hb
   repeat(first|apply wG|(apply wR;simp -dsimp)|refine aI ?_)
   refine WP.cond (b:=decide (c.toNat=2)) (by simp[show ((c.toNat:Int)=2)↔c.toNat=2 by omega]) (fun hb=>?_) (fun hb=>?_)
   ·have hb:=of_decide_eq_true hb
    rw[oZ_ _ _ hb] at ho
    cases hp:iM_ r with
    | none =>
     have hn:o=none:=by rw[← ho,hp];rfl
     repeat(first|apply wG|(apply wR;simp -dsimp)|refine aI ?_)
     refine vcStop.call cv_ (wf_ r hr1 hp) (rl [(0,600)]) rfl rfl (by simp[BoxLeq]) (af_ (by simp[BoxLeq]) rfl (by first|rfl|(simp[BoxLeq];done)) (by simp[BoxLeq]) (by simp[BoxLeq])) (fun _ h=>by first|exact h|exact⟨by assumption,h⟩) (fun _ _ h=>by cases h) (fun _ _ _=>rfl) (by simp[BoxLeq]) ?_
     simp -dsimp
     refine vcStop.call aE_ (ds_ [] 0 (by simp)) (rl []) rfl rfl (by simp[BoxLeq]) (af_ (by simp[BoxLeq]) rfl (by first|rfl|(simp[BoxLeq];done)) (by simp[BoxLeq]) (by simp[BoxLeq])) (fun _ h=>h.elim) (fun ⟨_,h⟩=>h.elim) (fun ⟨_,h⟩=>h.elim) (by simp[BoxLeq]) ?_
     simp -dsimp
     repeat refine aI ?_
     refine aQ_ 600 (by simp)
    | some x =>
     obtain⟨n,r'⟩:=x
     have hle:=fv_ hp
     have hn:o=some (.mk 2 0 ⟨(r'.take n).toArray⟩ [],r'.drop n):=by rw[← ho,hp];rfl
     repeat(first|apply wG|(apply wR;simp -dsimp)|refine aI ?_)
     refine vcStop.call cv_ (we_ r hr1 hp) (rl []) rfl rfl (by simp[BoxLeq]) (af_ (by simp[BoxLeq]) rfl (by first|rfl|(simp[BoxLeq];done)) (by simp[BoxLeq]) (by simp[BoxLeq])) (fun _ h=>h.elim) (fun ⟨_,h⟩=>h.elim) (fun ⟨_,h⟩=>h.elim) (by simp[BoxLeq]) ?_
     simp -dsimp
     refine vcStop.call aE_ (ds_ r' n hle.1) (rl []) rfl rfl (by simp[BoxLeq]) (af_ (by simp[BoxLeq]) rfl (by first|rfl|(simp[BoxLeq];done)) (by simp[BoxLeq]) (by simp[BoxLeq])) (fun _ h=>h.elim) (fun ⟨_,h⟩=>h.elim) (fun ⟨_,h⟩=>h.elim) (by simp[BoxLeq]) ?_
     simp -dsimp
     repeat(first|apply wG|(apply wR;simp -dsimp)|refine aI ?_)
     refine WP.ret (ac_ ?_)
     simp -dsimp[hn,hb,rv,ro,V.d,V.cells,aB_]
   have hb2:¬ c.toNat=2:=of_decide_eq_false hb
   repeat(first|apply wG|(apply wR;simp -dsimp)|refine aI ?_)
   refine WP.cond (b:=decide (c.toNat=3)) (by simp[show ((c.toNat:Int)=3)↔c.toNat=3 by omega]) (fun hb=>?_) (fun hb=>?_)
   ·have hb:=of_decide_eq_true hb
    cases b with
    | zero =>
     have hn:o=none:=by rw[← ho,ny_ _ hb]
     have hd1:¬ d<16:=by omega
     repeat(first|apply wG|(apply wR;simp -dsimp)|refine aI ?_)
     refine vcStop.call au_ (ic_) (rl [(0,600)]) rfl rfl (by simp[hd1,BoxLeq]) (af_ (by simp[hd1,BoxLeq]) rfl (by first|rfl|(simp[hd1,BoxLeq];done)) (by simp[hd1,BoxLeq]) (by simp[hd1,BoxLeq])) (fun _ h=>by first|exact h|exact⟨by assumption,h⟩) (fun _ _ h=>by cases h) (fun _ _ _=>rfl) (by simp[hd1,BoxLeq]) ?_
     simp -dsimp
     repeat refine aI ?_
     refine aQ_ 600 (by simp)
    | succ b =>
     rw[oY_ _ _ hb] at ho
     have hd1:d<16:=by omega
     have hd2:IntKind.i64.wrap (d+1)=d+1:=IntWalk.i64_in _ (by omega)
     repeat(first|apply wG|(apply wR;simp -dsimp)|refine aI ?_)
     refine vcStop.call au_ (ea_) (rl []) rfl rfl (by simp[hd1,BoxLeq]) (af_ (by simp[hd1,BoxLeq]) rfl (by first|rfl|(simp[hd1,BoxLeq];done)) (by simp[hd1,BoxLeq]) (by simp[hd1,BoxLeq])) (fun _ h=>h.elim) (fun ⟨_,h⟩=>h.elim) (fun ⟨_,h⟩=>h.elim) (by simp[hd1,BoxLeq]) ?_
     simp -dsimp
     repeat(first|apply wG|(apply wR;simp -dsimp)|refine aI ?_)
     cases hp:iM_ r with
     | none =>
      have hn:o=none:=by rw[← ho,hp];rfl
      refine vcStop.call cv_ (wf_ r hr1 hp) (rl [(0,600)]) rfl rfl (by simp[BoxLeq]) (af_ (by simp[BoxLeq]) rfl (by first|rfl|(simp[BoxLeq];done)) (by simp[BoxLeq]) (by simp[BoxLeq])) (fun _ h=>by first|exact h|exact⟨by assumption,h⟩) (fun _ _ h=>by cases h) (fun _ _ _=>rfl) (by simp[BoxLeq]) ?_
      simp -dsimp
      repeat refine aI ?_
      refine aQ_ 600 (by simp)
     | some x =>
      obtain⟨n,r'⟩:=x
      have hle:=fv_ hp
      rw[hp,Option.bind_some] at ho
      refine vcStop.call cv_ (we_ r hr1 hp) (rl []) rfl rfl (by simp[BoxLeq]) (af_ (by simp[BoxLeq]) rfl (by first|rfl|(simp[BoxLeq];done)) (by simp[BoxLeq]) (by simp[BoxLeq])) (fun _ h=>h.elim) (fun ⟨_,h⟩=>h.elim) (fun ⟨_,h⟩=>h.elim) (by simp[BoxLeq]) ?_
      simp -dsimp
      repeat(first|apply wG|(apply wR;simp -dsimp)|refine aI ?_)
      refine ai_ (fun m S=>∃ l r,l.length+m=n∧r.length≤1000000000000∧(pMany (pVal b) m r).map (fun y=>(V.mk 3 0 ⟨#[]⟩ (l++y.1),y.2))=o∧S=s32 d n l.length l r) n (S0:=s32 d n 0 [] r')
       ((cc_ 4 3 500 166 4 (by simp;exact⟨rfl,rfl⟩) rfl (by simp)).trans (ae_ [] (by simp[s32]) (by simp[s32,hb,aB_]))) ⟨[],r',by simp,by omega,by simpa using ho,rfl⟩ ?_
      rintro m _ ⟨l,r1,hl,hr2,ho1,rfl⟩
      simp -dsimp[s32]
      repeat(first|apply wG|(apply wR;simp -dsimp)|refine aI ?_)
      cases m with
      | zero =>
       rw[pMany] at ho1
       simp only[Option.map_some,List.append_nil] at ho1
       refine cF (by simp;omega) ?_
       refine WP.exit ?_
       simp -dsimp
       repeat(first|apply wG|(apply wR;simp -dsimp)|refine aI ?_)
       refine WP.ret (ak_ (Wk.freeze (k:=500) (T:=166) (sz:=4) (ds:=aB_ l) (by simp;rfl)) ?_)
       simp[← ho1,rv,ro,V.d,V.cells]
      | succ m =>
       rw[pMany] at ho1
       refine cT (by simp;omega) ?_
       refine WP.skip ?_
       simp -dsimp
       have e1:IntKind.i64.wrap ((l.length:Int)+1)=(l.length:Int)+1:=IntWalk.i64_in _ (by omega)
       refine WP.seq (WP.block ?_)
       refine nV_ aa_ dV_ ?_
       simp -dsimp[hd2]
       have h32:=ih b rfl (by omega) r1 (d+1) (by omega) hr2
       cases hv:pVal b r1 with
       | none =>
        have hn:o=none:=by rw[← ho1,hv];rfl
        refine vcStop.call cw_ (lJ_ h32 hv) (rl [(0,600)]) rfl rfl (by simp[BoxLeq]) (af_ (by simp[BoxLeq]) rfl (by first|rfl|(simp[BoxLeq];done)) (by simp[BoxLeq]) (by simp[BoxLeq])) (fun _ h=>by first|exact h|exact⟨by assumption,h⟩) (fun _ _ h=>by cases h) (fun _ _ _=>rfl) (by simp[BoxLeq]) ?_
        simp -dsimp[V.d,V.cells,aB_]
        repeat refine aI ?_
        refine aQ_ 600 (by simp)
       | some x =>
        obtain⟨⟨k2,n2,s2,l2⟩,r2⟩:=x
        have hle2:=sb_ b _ _ _ hv
        rw[hv] at ho1
        simp only at ho1
        refine vcStop.call cw_ (lI_ h32 hv) (rl []) rfl rfl (by simp[BoxLeq]) (af_ (by simp[BoxLeq]) rfl (by first|rfl|(simp[BoxLeq];done)) (by simp[BoxLeq]) (by simp[BoxLeq])) (fun _ h=>h.elim) (fun ⟨_,h⟩=>h.elim) (fun ⟨_,h⟩=>h.elim) (by simp[BoxLeq]) ?_
        simp -dsimp[V.d,V.cells]
        repeat(first|apply wG|(apply wR;simp -dsimp)|refine aI ?_)
        refine loopW.next (s32 d n (l++[V.mk k2 n2 s2 l2]).length (l++[V.mk k2 n2 s2 l2]) r2) (Wk.go [45] 46 500 (by decide) (by simp[s32]) (by simp[s32,e1]) (by simp[s32,hb,cm_,aB_,V.cells])) m (by omega)
         ⟨l++[V.mk k2 n2 s2 l2],r2,by simp;omega,by omega,?_,rfl⟩
        rw[← ho1]
        cases pMany (pVal b) m r2 with
        | none=>rfl
        | some y=>simp
   ·have hb3:¬ c.toNat=3:=of_decide_eq_false hb
    have hn:o=none:=by rw[← ho,sa_ _ _ hb1 hb2 hb3]
    repeat(first|apply wG|(apply wR;simp -dsimp)|refine aI ?_)
    refine vcStop.call au_ (ic_) (rl [(0,600)]) rfl rfl (by simp[BoxLeq]) (af_ (by simp[BoxLeq]) rfl (by first|rfl|(simp[BoxLeq];done)) (by simp[BoxLeq]) (by simp[BoxLeq])) (fun _ h=>by first|exact h|exact⟨by assumption,h⟩) (fun _ _ h=>by cases h) (fun _ _ _=>rfl) (by simp[BoxLeq]) ?_
    simp -dsimp
    repeat refine aI ?_
    refine aQ_ 600 (by simp)
theorem xI_:∀ b,xJ_ b
 | 0=>wl_ 0 fun b' h=>by omega
 | b+1=>wl_ (b+1) fun b' h=>(Nat.succ.inj h)▸xI_ b
end Go.Proofs.YtfgcgagcpnbgmaaGreatDoor
namespace Go.Proofs.YtfgcgagcpnbgmaaGreatDoor
open Go.Xe Go.RowKit
theorem jA_:Tryz.prog.underlying 20=some (.interface (Tryz.prog.methodsAt 20)):=by kernel_rfl
theorem f31_ret (v1 v2:Value) (w:World):CallsD Tryz.prog 234 #[v1,v2] .returning w fun e u' w'=>(∃ v,e=.returned v)∧u'=.returning∧w'=w:=by
 refine callsD_of_wpS Tryz.func234 rfl fun c₀ cs hu=>?_
 simp only[Tryz.f234]
 apply wpS_seq
 apply wpS_region
 simp[wpOpsS,go_sem,recoverD,hu,Exit.thenS]
 apply wpS_seq
 apply wpS_region
 simp[wpOpsS,go_sem,Exit.thenS,jA_]
 refine wpS_cond (t:=false) (by simp[Act.eval,Array.replicate]) ?_
 simp only[Bool.false_eq_true,if_false]
 refine wpS_of_wp (wp_skip ?_)
 cases c₀
 simp_all [bodyPostS,results]
def pe (b:Bool):PanicEntry:={ v:=.iface 36 (.int .i64 20),recovered:=b }
def vJ_:Bxs:=[(1000,.cells 166 [.d (.v (.int .i64 0)),.d (.v (.int .i64 0)),.d (.v (.string ⟨#[]⟩)),.d (.v (.slice none 0 0))]),(1001,.cells 36 [.d (.v (.int .i64 20))])]
theorem xK_ {w0:World} {I0 F I:Nat→Prop} {β:Nat→Value} {w:World} {cs2 cs3:List AV} (h2:cs2.length=4) (h3:cs3.length=1) (hm:Mem w0 I0 F [(1000,.cells 166 cs2),(1001,.cells 36 cs3)] I β w) (b2 b3:Nat)
  (hp2:β 1000=.pointer (some ⟨b2,0,none⟩)) (hp3:β 1001=.pointer (some ⟨b3,0,none⟩)) :
  CallsD Tryz.prog 234 #[β 1000,β 1001] (.panicking [pe false]) w fun e u' w'=>(∃ v,e=.returned v)∧u'=.panicking [pe true]∧∃ I' β',Mem w0 I0 F vJ_ I' β' w'∧β' 1000=β 1000∧β' 1001=β 1001:=by
 refine callsD_of_wpS Tryz.func234 rfl fun c₀ cs hu=>?_
 simp only[Tryz.f234]
 apply wpS_seq
 apply wpS_region
 simp[wpOpsS,go_sem,recoverD,hu,Exit.thenS,pe]
 apply wpS_seq
 apply wpS_region
 simp[wpOpsS,go_sem,Exit.thenS,jA_]
 refine wpS_cond (t:=true) (by simp[Act.eval,Array.replicate]) ?_
 simp only[if_true]
 obtain⟨c0,c1,c2,c3,rfl⟩:∃ c0 c1 c2 c3,cs2=[c0,c1,c2,c3]:=by
  match cs2,h2 with
  | [c0,c1,c2,c3],_=>exact⟨c0,c1,c2,c3,rfl⟩
 obtain⟨c4,rfl⟩:∃ c4,cs3=[c4]:=by
  match cs3,h3 with
  | [c4],_=>exact⟨c4,rfl⟩
 refine wpS_of_wp (wp_mono ((wpIn_wide (n:=1)).1 (nV_ aa_ dV_ (ds:=⟨[],β,none,false⟩) (pn:=ap_) (Q:=fun e S=>e=.normal∧m8_ S.bx vJ_)
  (S:=mkS 9 [(0,.ptr 1000 0),(1,.ptr 1001 0),(2,.d (.v (.iface 36 (.int .i64 20))))] [(1000,.cells 166 [c0,c1,c2,c3]),(1001,.cells 36 [c4])]) ?_ w0 I0 F I β _ w ?_)) ?_)
 ·simp -dsimp[vJ_]
  repeat refine aI ?_
  exact rfl
 ·refine⟨hm,?_,⟨rfl,fun _=>rfl⟩,fun _ _=>rfl⟩
  simp[p1_,p0_,Array.replicate,mS_,DenA_v,hp2,hp3,DenA,Den]
 ·rintro e a' w' hh
  cases e with
  | normal =>
   obtain⟨S,I',β',⟨_,hb⟩,hr⟩:=hh
   refine⟨hr.dn.pan rfl,_,rfl,.tuple #[],by simp[results],⟨_,rfl⟩,rfl,I',β',hr.mem.sub (subB_ok hb),hr.fx _ (Nat.le_refl _),hr.fx _ (by omega)⟩
  | panic ch=>exact hh.1.elim
  | outgrown=>exact hh.elim
  | ret=>obtain⟨S,I',β',⟨h,_⟩,_⟩:=hh;cases h
  | exit id=>obtain⟨S,I',β',⟨h,_⟩,_⟩:=hh;cases h
  | goto l=>obtain⟨S,I',β',⟨h,_⟩,_⟩:=hh;cases h
@[simp] def c24 (c0 c1 c2 c3:D):Box:=.cells 166 [.d c0,.d c1,.d c2,.d c3]
def pDec (bs:List UInt8):V×Int :=
 match pVal 16 bs with
 | some (v,[])=>(v,0)
 | _=>(.mk 0 0 ⟨#[]⟩ [],20)
def vv_ (bs:List UInt8):D:=.tup [(pDec bs).1.d,.v (.int .i64 (pDec bs).2)]
def df (p2 p3:Value):Deferred:={ target:=.fn (.func 234) #[p2,p3],args := #[] }
def wR_ (bs:List UInt8):St:=mkS 20 [(0,.d (slB bs)),(2,.ptr 1000 0),(3,.ptr 1001 0)] [(1000,.cells 166 [.d (.v (.int .i64 0)),.d (.v (.int .i64 0)),.d (.v (.string ⟨#[]⟩)),.d (.v (.slice none 0 0))]),(1001,.cells 36 [.d (.v (.int .i64 0))])]
def BP_ (bs:List UInt8):St:=mkS 20 [(2,.ptr 1000 0),(3,.ptr 1001 0),(4,.ptr 8 0)] [(1000,.cells 166 [.d (.v (.int .i64 0)),.d (.v (.int .i64 0)),.d (.v (.string ⟨#[]⟩)),.d (.v (.slice none 0 0))]),(1001,.cells 36 [.d (.v (.int .i64 0))]),(8,rdB bs)]
def yr_ (k n:Int) (s:ByteArray) (l:List V) (r:List UInt8):St:=mkS 20 [(2,.ptr 1000 0),(3,.ptr 1001 0),(4,.ptr 8 0)] [(1000,c24 (.v (.int .i64 k)) (.v (.int .i64 n)) (.v (.string s)) (slV l)),(1001,.cells 36 [.d (.v (.int .i64 0))]),(8,rdB r)]
def wS_ (bs:List UInt8):St:=mkS 20 [(0,.d (slB bs)),(2,.ptr 2 0),(3,.ptr 3 0)] [(2,.cells 166 [.d (.v (.int .i64 0)),.d (.v (.int .i64 0)),.d (.v (.string ⟨#[]⟩)),.d (.v (.slice none 0 0))]),(3,.cells 36 [.d (.v (.int .i64 0))])]
theorem s3_ {w:World} {I:Nat→Prop} {β β0:Nat→Value} {I2:Nat→Prop} {β2:Nat→Value} {a2:Act} {w2:World} {c0 c1 c2 c3 c4:D} {r:List UInt8}
  (hr:Rel ⟨[df (β0 1000) (β0 1001)],β0,none,false⟩ w I (Fp [] β) (mkS 20 [(2,.ptr 1000 0),(3,.ptr 1001 0),(4,.ptr 8 0)] [(1000,c24 c0 c1 c2 c3),(1001,.cells 36 [.d c4]),(8,rdB r)]) I2 β2 a2 w2) {c:Code}
  (hW:∀ ds γ,WP Tryz.prog ⟨ds,γ,none,false⟩ ⟨pc,[],[(2,.d (.v (β0 1000))),(3,.d (.v (β0 1001)))]⟩ c (fun e S=>e=.normal∧getB S.bx 600=some nR_) (mkS 20 [(2,.d (.v (β0 1000))),(3,.d (.v (β0 1001))),(4,.ptr 8 0)] [(8,rdB r)]))
  {R:Ending→World→Prop} (hR:∀ w' I' v,Mem w I (Fp [] β) [] I' β w'→Den w' I' (.tup [(V.mk 0 0 ⟨#[]⟩ []).d,.v (.int .i64 20)]) v→R (.returned v) w') (K:Act→World→Prop):c.wp Tryz.prog (Exit.then K (bodyPostD Tryz.prog Tryz.f185 R)) a2 w2:=by
 obtain⟨b2,vs2,hb2,_⟩:=hr.mem.bxs 1000 (c24 c0 c1 c2 c3) rfl
 obtain⟨b3,vs3,hb3,_⟩:=hr.mem.bxs 1001 (.cells 36 [.d c4]) rfl
 have e2:∃ y,a2.tmps.toList[2]? = some y∧y=β0 1000:=by
  obtain⟨y,hy,hd⟩:=hr.sl.get (i:=2) (x:=.ptr 1000 0) rfl
  rw[DenA] at hd
  obtain⟨b,h1,h2⟩:=hd
  exact⟨y,hy,(h2.trans h1.symm).trans (hr.fx 1000 (by omega))⟩
 have e3:∃ y,a2.tmps.toList[3]? = some y∧y=β0 1001:=by
  obtain⟨y,hy,hd⟩:=hr.sl.get (i:=3) (x:=.ptr 1001 0) rfl
  rw[DenA] at hd
  obtain⟨b,h1,h2⟩:=hd
  exact⟨y,hy,(h2.trans h1.symm).trans (hr.fx 1001 (by omega))⟩
 rw[hr.fx 1000 (by omega)] at hb2
 rw[hr.fx 1001 (by omega)] at hb3
 change β0 1000=_ at hb2
 change β0 1001=_ at hb3
 obtain⟨y2,e2,rfl⟩:=e2
 obtain⟨y3,e3,rfl⟩:=e3
 have hcb:∀ k b,getB [(8,rdB r)] k=some b→getB [(1000,c24 c0 c1 c2 c3),(1001,.cells 36 [.d c4]),(8,rdB r)] k=some b:=fun k b h=>by
  simp only[getB] at h ⊢
  split at h
  ·rename_i e;subst e;cases h;rfl
  ·cases h
 have hm:=hr.mem.start hcb
 have hsl:=DenAs.set (x:=.d (.v (β0 1001))) (y:=β0 1001) (w:=w2) (I:=I2) (β:=β2) (DenA_v.2 rfl) (DenAs.set (x:=.d (.v (β0 1000))) (y:=β0 1000) (w:=w2) (I:=I2) (β:=β2) (DenA_v.2 rfl) hr.sl 2) 3
 rw[set_self e2,set_self e3] at hsl
 have hr':Rel ⟨[df (β0 1000) (β0 1001)],β2,none,false⟩ w2 I2 (Fp [(8,rdB r)] β2) (mkS 20 [(2,.d (.v (β0 1000))),(3,.d (.v (β0 1001))),(4,.ptr 8 0)] [(8,rdB r)]) I2 β2 a2 w2:=⟨hm,hsl,hr.dn,fun _ _=>rfl⟩
 refine wp_mono ((wpIn_wide (n:=1)).1 (hW _ β2 w2 I2 _ I2 β2 a2 w2 hr')) ?_
 rintro e a3 w3 hh
 cases e with
 | normal =>
  obtain⟨S,I3,β3,⟨_,hb⟩,hr3⟩:=hh
  obtain⟨b,vs,_,_,hd,_⟩:=hr3.mem.bxs 600 _ hb
  obtain⟨v,vs',_,h1,_⟩:=hd
  rw[DenA] at h1
  exact (pK_ h1).elim
 | panic ch =>
  obtain⟨hok,bx,I3,β3,hp⟩:=hh
  have hm3:Mem w I (Fp [] β) [(1000,c24 c0 c1 c2 c3),(1001,.cells 36 [.d c4])] I3 β2 w3:=by
   refine hr.mem.keep (cb:=[(8,rdB r)]) (β':=β2) hcb ?_ fun k b h=>?_
   ·exact (hp.mem.sub (bx':=[]) (by simp[getB])).relabel id (by simp[getB]) (by simp[getB])
   ·simp only[getB] at h ⊢
    split at h
    ·rename_i e;subst e;exact⟨h,rfl⟩
    ·split at h
     ·rename_i e;subst e;exact⟨h,rfl⟩
     ·cases h
  have h31:=xK_ (cs2:=[.d c0,.d c1,.d c2,.d c3]) (cs3:=[.d c4]) rfl rfl hm3 b2 b3 ((hr.fx 1000 (by omega)).trans hb2) ((hr.fx 1001 (by omega)).trans hb3)
  rw[hr.fx 1000 (by omega),hr.fx 1001 (by omega)] at h31
  have hz2:=hp.zs (2,.d (.v (β0 1000))) (by simp)
  have hz3:=hp.zs (3,.d (.v (β0 1001))) (by simp)
  rw[DenA_v] at hz2 hz3
  show Leaves _ _ a3.tmps R a3.defers (.panicking ch) w3
  rw[hp.dn rfl,hok]
  show Leaves _ _ a3.tmps R [{ target:=.fn (.func 234) #[β0 1000,β0 1001],args := #[] }] (.panicking [pe false]) w3
  refine leaves_cons (f:=234) (args := #[β0 1000,β0 1001]) (fun h=>by cases h) (by simp[go_sem]) (CallsD.mono h31 ?_)
  rintro e u' w4 ⟨⟨v,rfl⟩,rfl,I4,β5,hm5,h6,h7⟩
  have hS:Rel ⟨[],β5,none,false⟩ w I (Fp [] β) ⟨[.d .any,.d .any,.ptr 1000 0,.ptr 1001 0],vJ_,[]⟩ I4 β5 { tmps := #[undef,undef,β0 1000,β0 1001],defers:=[] } w4:=by
   refine⟨hm5,?_,⟨rfl,fun _=>rfl⟩,fun _ _=>rfl⟩
   simp[p1_,p0_,mS_,DenA,h6,h7,hb2,hb3,Den]
  obtain⟨us,hus,hdu⟩:=dh_ aa_ hS [.cell 2 166,.cell 3 36] (side:=(0+4≤4∧(true=false→4=1))∧(0+1≤1∧(false=false→1=1))∧True) (l:=[.agg [.d (.v (.int .i64 0)),.d (.v (.int .i64 0)),.d (.v (.string ⟨#[]⟩)),.d (.v (.slice none 0 0))],.d (.v (.int .i64 20))]) rfl (by simp)
  have hm6:Mem w I (Fp [] β) [] I4 β w4:=(hm5.sub (bx':=[]) (by simp[getB])).relabel id (by simp[getB]) (by simp[getB])
  refine⟨BU_ us,ca_ _ _ _ _ _ ?_,hR w4 I4 _ hm6 ?_⟩
  ·have he:∀ (t:Tmp) (ty:TypeId),(t=2∨t=3)→resV a3.tmps (.cell t ty)=resV #[undef,undef,β0 1000,β0 1001] (.cell t ty):=fun t ty ht=>by
    rcases ht with rfl|rfl
    ·simp only[resV];rw[show a3.tmps.getD 2 undef=β0 1000 from hz2];rfl
    ·simp only[resV];rw[show a3.tmps.getD 3 undef=β0 1001 from hz3];rfl
   have:(Tryz.f185).results.toList.mapM (resV a3.tmps)=[ResultVar.cell 2 166,ResultVar.cell 3 36].mapM (resV #[undef,undef,β0 1000,β0 1001]):=by
    show [ResultVar.cell 2 166,ResultVar.cell 3 36].mapM (resV a3.tmps)=_
    simp only[List.mapM_cons,List.mapM_nil,he 2 166 (.inl rfl),he 3 36 (.inr rfl)]
   rw[this];exact hus
  ·have:=hdu.one
   have hl:Leq (qt_ [AV.agg [.d (.v (.int .i64 0)),.d (.v (.int .i64 0)),.d (.v (.string ⟨#[]⟩)),.d (.v (.slice none 0 0))],.d (.v (.int .i64 20))]) (.d (.tup [(V.mk 0 0 ⟨#[]⟩ []).d,.v (.int .i64 20)])):=by
    simp[V.d,V.cells,aB_]
   exact hl _ _ _ _ this
 | outgrown=>exact hh.elim
 | ret=>obtain⟨S,I',β',⟨h,_⟩,_⟩:=hh;cases h
 | exit id=>obtain⟨S,I',β',⟨h,_⟩,_⟩:=hh;cases h
 | goto l=>obtain⟨S,I',β',⟨h,_⟩,_⟩:=hh;cases h
theorem z4_ (bs:List UInt8) (hbs:bs.length≤1000000000000):Fn0 Tryz.prog 185 [slB bs] (vv_ bs):=by
 intro w I β vs hm hd
 suffices h:∀ R:Ending→World→Prop,(∀ w' I' v,Mem w I (Fp [] β) [] I' β w'→Den w' I' (vv_ bs) v→R (.returned v) w')→Calls Tryz.prog 185 vs.toArray w R from
  h _ fun w' I' v hm' hv=>⟨I',β,hm',by rw[DenA];exact hv,fun _ _=>rfl⟩
 intro R hR
 refine calls_of_wp_defers Tryz.func185 rfl ?_
 have hr0:=Rel.enter hm hd 20
 simp only[Tryz.f185]
 refine wp_seq (wp_mono ((wpIn_wide (n:=1)).1 (WP.region aa_ (ds:=⟨[],β,none,false⟩) (pn:=ap_) (Q:=fun e S=>e=.normal∧LeqL S.sl (wS_ bs).sl∧m8_ S.bx (wS_ bs).bx) ?_ w I _ I β _ w hr0)) ?_)
 ·simp -dsimp[wS_]
 ·rintro e a1 w1 hh
  cases e with
  | normal =>
   obtain⟨S,I1,β1,⟨_,h1,h2⟩,hr⟩:=hh
   obtain⟨I1,β1,hr1⟩:=du_ h1 (subB_ok h2) (hr.dn.2 rfl).symm _ _ _ _ _ _ _ _ hr
   clear hr
   have e2:=hr1.ev (.tmp 2)
   have e3:=hr1.ev (.tmp 3)
   obtain⟨b2,hb2,e2⟩:∃ b2,β1 2=.pointer (some ⟨b2,0,none⟩)∧a1.eval (.tmp 2)=β1 2:=by
    simp only[wS_,St.ev,St.at] at e2
    obtain⟨b,h1,h2⟩:=e2
    exact⟨b,h1,h2.trans h1.symm⟩
   obtain⟨b3,hb3,e3⟩:∃ b3,β1 3=.pointer (some ⟨b3,0,none⟩)∧a1.eval (.tmp 3)=β1 3:=by
    simp only[wS_,St.ev,St.at] at e3
    obtain⟨b,h1,h2⟩:=e3
    exact⟨b,h1,h2.trans h1.symm⟩
   have hsz:a1.tmps.size=20:=by
    have:=hr1.sl.length
    simpa [wS_] using this.symm
   refine wp_seq (t3_ (t:=5) (g:=234) (caps := #[.tmp 2,.tmp 3]) rfl rfl rfl rfl rfl rfl (by omega) ?_)
   obtain⟨β0,hβ0⟩:∃ β0:Nat→Value,β0=upd (upd β 1000 (β1 2)) 1001 (β1 3):=⟨_,rfl⟩
   have hr2:Rel ⟨[df (β0 1000) (β0 1001)],β0,none,false⟩ w I (Fp [] β) (wR_ bs) I1 (upd (upd β1 1000 (β1 2)) 1001 (β1 3)) { a1.put (some 5) (.func (.func 234) #[] (#[Operand.tmp 2,.tmp 3].map a1.eval)) with defers:={ target:=.fn (.func 234) (#[Operand.tmp 2,.tmp 3].map a1.eval),args := #[] }::a1.defers } w1:=by
    have hd:∀ l:List D,∀ t,ah_ t (l.map .d)=false:=fun l t=>hasL_d l
    refine⟨hr1.mem.relabel (fun k=>if k=1000 then 2 else 3) (fun k b h=>?_) fun k j b c h1 h2 he=>?_,?_,?_,fun k hk=>?_⟩
    ·simp only[wR_,mkS,getB] at h
     split at h
     ·rename_i e;subst e;cases h;exact⟨rfl,by simp[upd],fun t ht=>by simp[Box.cs,ah_,AV.has] at ht⟩
     ·split at h
      ·rename_i e;subst e;cases h;exact⟨rfl,by simp[upd],fun t ht=>by simp[Box.cs,ah_,AV.has] at ht⟩
      ·cases h
    ·have l:∀ k b,getB (wR_ bs).bx k=some b→k=1000∨k=1001:=fun k b h=>by
      simp only[wR_,mkS,getB] at h
      split at h
      ·rename_i e;exact .inl e.symm
      ·split at h
       ·rename_i e;exact .inr e.symm
       ·cases h
     rcases l k b h1 with rfl|rfl<;>rcases l j c h2 with rfl|rfl<;>simp at he ⊢
    ·have h:=(hr1.put (some 5) (x:=.d .any) (y:=.func (.func 234) #[] (#[Operand.tmp 2,.tmp 3].map a1.eval)) (aW_ _ _ _ _)).sl
     have h1:=DenAs.mono (β':=upd (upd β1 1000 (β1 2)) 1001 (β1 3)) (.refl w1 I1) _ _ (fun k hk=>by
      have:k=2∨k=3:=by
       simp[St.put,wS_,ah_,AV.has] at hk
       rcases hk with rfl|rfl<;>simp
      rcases this with rfl|rfl<;>simp[upd]) h
     have h2:=DenAs.set (x:=.ptr 1001 0) (y:=β1 3) (w:=w1) (I:=I1) (β:=upd (upd β1 1000 (β1 2)) 1001 (β1 3)) (by rw[DenA];exact⟨b3,by simp[upd,hb3],hb3⟩)
      (DenAs.set (x:=.ptr 1000 0) (y:=β1 2) (w:=w1) (I:=I1) (β:=upd (upd β1 1000 (β1 2)) 1001 (β1 3)) (by rw[DenA];exact⟨b2,by simp[upd,hb2],hb2⟩) h1 2) 3
     have g:∀ (t:Nat) (y:Value),t<20→t≠5→a1.eval (.tmp t)=y→(a1.put (some 5) (.func (.func 234) #[] (#[Operand.tmp 2,.tmp 3].map a1.eval))).tmps.toList[t]? = some y:=fun t y h20 h5 hy=>by
      have h6:a1.tmps[t]? = some y:=by
       rw[Array.getElem?_eq_getElem (by omega)]
       rw[← hy]
       simp[Act.eval,Array.getD,show t<a1.tmps.size by omega]
      simp[Act.put,Ne.symm h5]
      simpa using h6
     rw[set_self (g 2 _ (by omega) (by omega) e2),set_self (g 3 _ (by omega) (by omega) e3)] at h2
     exact h2
    ·refine⟨?_,fun _=>by simp[wR_]⟩
     show _::a1.defers=_
     rw[hr1.dn.pan rfl]
     simp[df,e2,e3,hβ0,upd,wR_]
    ·simp only[hβ0,upd]
     split
     ·rfl
     ·split
      ·rfl
      ·exact hr1.fx k hk
   generalize ({ a1.put (some 5) (.func (.func 234) #[] (#[Operand.tmp 2,.tmp 3].map a1.eval)) with defers:={ target:=.fn (.func 234) (#[Operand.tmp 2,.tmp 3].map a1.eval),args := #[] }::a1.defers }:Act)=a2 at hr2 ⊢
   show Code.wp _ _ _ a2 w1
   clear hr1 e2 e3 hsz hr0 h1 h2
   refine wp_seq (wp_mono ((wpIn_wide (n:=1)).1 (WP.region aa_ (ds:=⟨[df (β0 1000) (β0 1001)],β0,none,false⟩) (pn:=ap_) (Q:=fun e S=>e=.normal∧LeqL S.sl (BP_ bs).sl∧m8_ S.bx (BP_ bs).bx) ?_ w I _ I1 _ a2 w1 hr2)) ?_)
   ·simp -dsimp[wR_,BP_]
    repeat refine aI ?_
   rintro e a3 w3 hh
   cases e with
   | normal =>
    obtain⟨S,I3,β3,⟨_,h1,h2⟩,hr⟩:=hh
    obtain⟨I3,β3,hr3⟩:=du_ h1 (subB_ok h2) (hr.dn.2 rfl).symm _ _ _ _ _ _ _ _ hr
    clear hr h1 h2 hr2
    cases hp:pVal 16 bs with
    | none =>
     refine wp_seq (s3_ (c0:=.v (.int .i64 0)) (c1:=.v (.int .i64 0)) (c2:=.v (.string ⟨#[]⟩)) (c3:=.v (.slice none 0 0)) (c4:=.v (.int .i64 0)) (r:=bs) hr3 (fun ds γ=>?_) (fun w' I' v hm' hv=>?_) _)
     ·refine WP.region aa_ ?_
      simp -dsimp
      refine vcStop.call cw_ (lJ_ (xI_ 16 (by omega) bs 0 (by omega) hbs) hp) (rl [(1000,8),(0,600)]) rfl rfl (by simp) (af_ (by simp) rfl (by first|rfl|simp) (by simp) (by simp)) (fun _ h=>h) (fun _=>by simp) (fun _ _ _=>rfl) (by simp) ?_
      simp -dsimp
      refine jG_ 600 (by simp) ?_
      simp -dsimp
     ·refine hR w' I' v hm' ?_
      rw[vv_,pDec,hp]
      exact hv
    | some x =>
     obtain⟨v,r⟩:=x
     have h32:=lI_ (xI_ 16 (by omega) bs 0 (by omega) hbs) hp
     obtain⟨k,n,s,l⟩:=v
     refine wp_seq (wp_mono ((wpIn_wide (n:=1)).1 (WP.region aa_ (ds:=⟨[df (β0 1000) (β0 1001)],β0,none,false⟩) (pn:=ap_) (Q:=fun e S=>e=.normal∧LeqL S.sl (yr_ k n s l r).sl∧m8_ S.bx (yr_ k n s l r).bx) ?_ w I _ I3 _ a3 w3 hr3)) ?_)
     ·simp -dsimp[BP_,yr_]
      refine vcStop.call cw_ (h32) (rl [(1000,8)]) rfl rfl (by simp[BoxLeq]) (af_ (by simp[BoxLeq]) rfl (by first|rfl|(simp[BoxLeq];done)) (by simp[BoxLeq]) (by simp[BoxLeq])) (fun _ h=>h.elim) (fun ⟨_,h⟩=>h.elim) (fun ⟨_,h⟩=>h.elim) (by simp[BoxLeq]) ?_
      simp -dsimp[V.d,V.cells,yr_]
      repeat refine aI ?_
     rintro e a4 w4 hh
     cases e with
     | normal =>
      obtain⟨S,I4,β4,⟨_,h1,h2⟩,hr⟩:=hh
      obtain⟨I4,β4,hr4⟩:=du_ h1 (subB_ok h2) (hr.dn.2 rfl).symm _ _ _ _ _ _ _ _ hr
      clear hr h1 h2 hr3
      cases r with
      | nil =>
       have hdec:vv_ bs=.tup [(V.mk k n s l).d,.v (.int .i64 0)]:=by rw[vv_,pDec,hp]
       refine wp_mono ((wpIn_wide (n:=1)).1 ((?_:WP Tryz.prog ⟨[df (β0 1000) (β0 1001)],β0,none,false⟩ ap_ _ (finQ ag_ (Tryz.f185).results.toList (.d (vv_ bs)) []) (yr_ k n s l [])) w I _ I4 _ a4 w4 hr4)) ?_
       ·rw[hdec]
        simp only[yr_]
        repeat(first|apply wG|(apply wR;simp -dsimp)|refine aI ?_)
        refine vcStop.call au_ (ea_) (rl []) rfl rfl (by simp[BoxLeq]) (af_ (by simp[BoxLeq]) rfl (by first|rfl|(simp[BoxLeq];done)) (by simp[BoxLeq]) (by simp[BoxLeq])) (fun _ h=>h.elim) (fun ⟨_,h⟩=>h.elim) (fun ⟨_,h⟩=>h.elim) (by simp[BoxLeq]) ?_
        simp -dsimp
        repeat(first|apply wG|(apply wR;simp -dsimp)|refine aI ?_)
        refine WP.ret (ac_ ?_)
        simp -dsimp[V.d,V.cells]
       have fin:∀ a' w',(∃ S I' β',(∃ S',Wk S S'∧qN_ ag_ (Tryz.f185).results.toList (.d (vv_ bs)) [] S')∧Rel ⟨[df (β0 1000) (β0 1001)],β0,none,false⟩ w I (Fp [] β) S I' β' a' w') →
         Leaves Tryz.prog Tryz.f185 a'.tmps R a'.defers .returning w':=by
        rintro a' w' ⟨S,I1,β1,⟨S',hw,side,l,hl,hs,hle,hbo⟩,hr1⟩
        obtain⟨I',β',hr⟩:=hw _ _ _ _ _ _ _ _ hr1
        obtain⟨us,hus,hdu⟩:=dh_ aa_ hr _ hl hs
        rw[hr.dn.pan rfl]
        refine leaves_cons (f:=234) (args := #[β0 1000,β0 1001]) (fun h=>by cases h) (by simp[go_sem]) ((f31_ret _ _ w').mono ?_)
        rintro e u' w4 ⟨⟨v,rfl⟩,rfl,rfl⟩
        have hm6:Mem w I (Fp [] β) [] I' β w4:=(hr.mem.sub (bx':=[]) (by simp[getB])).relabel id (by simp[getB]) (by simp[getB])
        have h7:=hle _ _ _ _ hdu.one
        rw[DenA] at h7
        exact⟨_,ca_ _ a'.tmps _ _ us hus,hR _ I' _ hm6 h7⟩
       rintro e a5 w5 hh
       cases e with
       | normal=>exact fin _ _ hh
       | ret=>exact fin _ _ hh
       | panic ch=>exact hh.1.elim
       | outgrown=>exact hh.elim
       | exit id=>obtain⟨S,I',β',h,_⟩:=hh;exact h.elim
       | goto l=>obtain⟨S,I',β',h,_⟩:=hh;exact h.elim
      | cons c r =>
       refine wp_seq (s3_ (c0:=.v (.int .i64 k)) (c1:=.v (.int .i64 n)) (c2:=.v (.string s)) (c3:=slV l) (c4:=.v (.int .i64 0)) (r:=c::r) hr4 (fun ds γ=>?_) (fun w' I' v hm' hv=>?_) _)
       ·refine WP.region aa_ ?_
        simp -dsimp
        repeat refine aI ?_
        refine vcStop.call au_ ic_ (rl [(0,600)]) rfl rfl (by simp[show ¬ ((r.length:Int)+1=0) by omega]) (af_ (by simp) rfl (by first|rfl|simp) (by simp) (by simp)) (fun _ h=>h) (fun _=>by simp) (fun _ _ h=>by cases h) (by simp) ?_
        simp -dsimp
       ·refine hR w' I' v hm' ?_
        rw[vv_,pDec,hp]
        exact hv
     | panic ch=>exact hh.1.elim
     | outgrown=>exact hh.elim
     | ret=>obtain⟨S,I',β',⟨h,_⟩,_⟩:=hh;cases h
     | exit id=>obtain⟨S,I',β',⟨h,_⟩,_⟩:=hh;cases h
     | goto l=>obtain⟨S,I',β',⟨h,_⟩,_⟩:=hh;cases h
   | panic ch=>exact hh.1.elim
   | outgrown=>exact hh.elim
   | ret=>obtain⟨S,I',β',⟨h,_⟩,_⟩:=hh;cases h
   | exit id=>obtain⟨S,I',β',⟨h,_⟩,_⟩:=hh;cases h
   | goto l=>obtain⟨S,I',β',⟨h,_⟩,_⟩:=hh;cases h
  | panic ch=>exact hh.1.elim
  | outgrown=>exact hh.elim
  | ret=>obtain⟨S,I',β',⟨h,_⟩,_⟩:=hh;cases h
  | exit id=>obtain⟨S,I',β',⟨h,_⟩,_⟩:=hh;cases h
  | goto l=>obtain⟨S,I',β',⟨h,_⟩,_⟩:=hh;cases h
end Go.Proofs.YtfgcgagcpnbgmaaGreatDoor
namespace Go.Proofs.YtfgcgagcpnbgmaaGreatDoor
open Go.Xe Go.RowKit
/-! ### the reader of the reference -/
@[simp] def rB (pre r:List UInt8) (bad:Bool):Box:=.cells 279 [.d (slB (pre++r)),.d (.v (.int .i64 pre.length)),.d (.v (.bool bad))]
attribute [local simp] kL_
end Go.Proofs.YtfgcgagcpnbgmaaGreatDoor
namespace Go.Proofs.YtfgcgagcpnbgmaaGreatDoor
open Go.Xe Go.RowKit
attribute [local simp] kL_
/-! ### what is left is the end of what was there -/
def isEnd (r' r:List UInt8):Prop:=∃ q,q++r'=r
theorem isEnd.refl (r:List UInt8):isEnd r r:=⟨[],rfl⟩
theorem isEnd.trans {a b c:List UInt8} (h:isEnd a b) (h':isEnd b c):isEnd a c:=by
 obtain⟨q,rfl⟩:=h
 obtain⟨q',rfl⟩:=h'
 exact⟨q'++q,by simp⟩
theorem yu_ {a b:List UInt8} (c:UInt8) (h:isEnd a b):isEnd a (c::b):=by
 obtain⟨q,rfl⟩:=h
 exact⟨c::q,rfl⟩
theorem isEnd.drop (n:Nat) (r:List UInt8):isEnd (r.drop n) r:=⟨r.take n,List.take_append_drop n r⟩
/-! ### the two readers -/
end Go.Proofs.YtfgcgagcpnbgmaaGreatDoor
namespace Go.Proofs.YtfgcgagcpnbgmaaGreatDoor
open Go.Xe Go.RowKit
attribute [local simp] kL_
theorem vO_ (l:List UInt8):(∀ a∈bys l,a=.v (.int .u8 (unB (.d a)).toNat))↔True:=yh_ l
attribute [local simp] vO_
end Go.Proofs.YtfgcgagcpnbgmaaGreatDoor
namespace Go.Proofs.YtfgcgagcpnbgmaaGreatDoor
open Go.Xe Go.RowKit
/-! ### numerals -/
theorem p9:(128:Nat)^9=9223372036854775808:=by decide
theorem pB_:∀ (N m:Nat),m≤N→∀ (i u:Nat) (r:List UInt8),i≤9→u+m*128^i<18446744073709551616→(i=0∨0<m)→fd_ i u (digs m++r)=some (u+m*128^i,r):=by
 intro N
 induction N with
 | zero =>
  intro m hm i u r hi hb h0
  have:m=0:=by omega
  subst this
  rw[digs,if_pos (by omega),List.singleton_append,fd_]
  have:i=0:=by omega
  subst this
  simp
 | succ N ih =>
  intro m hm i u r hi hb h0
  rw[digs]
  split
  ·rename_i hlt
   have e:(UInt8.ofNat m).toNat=m:=by simp;omega
   have h9:i<9∨m≤1:=by
    rcases Nat.lt_or_ge i 9 with h|h
    ·exact .inl h
    ·have:i=9:=by omega
     subst this
     rw[p9] at hb
     exact .inr (by omega)
   rw[List.singleton_append,fd_,e,if_pos ⟨by omega,h9⟩,if_pos hlt,Nat.mod_eq_of_lt hlt]
  ·rename_i hge
   have e:(UInt8.ofNat (m%128+128)).toNat=m%128+128:=by simp;omega
   have h9:i<9:=by
    rcases Nat.lt_or_ge i 9 with h|h
    ·exact h
    ·have:i=9:=by omega
     subst this
     rw[p9] at hb
     omega
   have hs:u+m%128*128^i+m/128*128^(i+1)=u+m*128^i:=by
    have:m*128^i=(128*(m/128)+m%128)*128^i:=by rw[Nat.div_add_mod]
    rw[this,Nat.pow_succ,Nat.add_mul]
    have:m/128*(128^i*128)=128*(m/128)*128^i:=by rw[Nat.mul_comm (128^i) 128,← Nat.mul_assoc,Nat.mul_comm (m/128) 128]
    omega
   have hc:(m%128+128)%128=m%128:=by omega
   rw[List.cons_append,fd_,e,if_pos ⟨by omega,.inl h9⟩,if_neg (by omega),hc,ih (m/128) (by omega) (i+1) _ r (by omega) (by rw[hs];exact hb) (by omega),hs]
theorem kC_:∀ (bs:List UInt8) (i u x:Nat) (r:List UInt8),fd_ i u bs=some (x,r)→∃ m,bs=digs m++r∧x=u+m*128^i∧(0<i→0<m)
 | [],_,_,_,_,h=>by rw[fd_] at h;cases h
 | c::bs,i,u,x,r,h=>by
  rw[fd_] at h
  split at h
  ·rename_i hc
   split at h
   ·rename_i hlt
    cases h
    refine⟨c.toNat,?_,by rw[Nat.mod_eq_of_lt hlt],fun h=>by omega⟩
    rw[digs,if_pos hlt]
    simp
   ·rename_i hge
    obtain⟨m,rfl,rfl,hm⟩:=kC_ bs _ _ _ _ h
    have hlt:=c.toNat_lt
    refine⟨c.toNat%128+128*m,?_,?_,fun _=>by omega⟩
    ·have h1:¬ c.toNat%128+128*m<128:=by have:=hm (by omega);omega
     have h2:(c.toNat%128+128*m)%128+128=c.toNat:=by omega
     have h3:(c.toNat%128+128*m)/128=m:=by omega
     rw[digs.eq_1 (c.toNat%128+128*m),if_neg h1,h2,h3]
     simp
    ·rw[Nat.pow_succ,Nat.add_mul]
     have:m*(128^i*128)=128*m*128^i:=by rw[Nat.mul_comm (128^i) 128,← Nat.mul_assoc,Nat.mul_comm m 128]
     omega
  ·cases h
theorem lr_ {n:Nat} {r:List UInt8} (h:isU n) (hl:n≤r.length):iM_ (digs n++r)=some (n,r):=by
 rw[iM_,pB_ n n (Nat.le_refl _) 0 0 r (by omega) (by unfold isU at h;omega) (.inl rfl)]
 simp[hl]
theorem lN_ {bs:List UInt8} {n:Nat} {r:List UInt8} (h:iM_ bs=some (n,r)):bs=digs n++r:=by
 rw[iM_] at h
 split at h
 ·rename_i u r1 hp
  split at h
  ·cases h
   obtain⟨m,h1,h2,_⟩:=kC_ bs 0 0 _ _ hp
   have:m=n:=by omega
   subst this
   exact h1
  ·cases h
 ·cases h
/-! ### values -/
theorem tK_ (v:V):0<v.enc.length:=by
 obtain⟨k,n,s,l⟩:=v
 rw[V.enc]
 split
 ·simp
 ·split<;>simp
theorem fO_:∀ l:List V,l.length≤(aC_ l).length
 | []=>Nat.le_refl _
 | v::l=>by
  have:=tK_ v
  have:=fO_ l
  rw[aC_];simp;omega
theorem uh_ (s:ByteArray):(⟨s.data.toList.toArray⟩:ByteArray)=s:=by cases s;simp
mutual
theorem pU_:∀ (v:V) (b:Nat) (r:List UInt8),v.ok=true→v.rng=true→v.dep≤b→v.enc.length≤1000000000000→pVal b (v.enc++r)=some (v,r)
 | .mk k n s l,b,r,hok,hr,hd,hl=>by
  have hI:=(c3_ hr).1
  rw[V.ok] at hok
  rw[V.enc] at hl ⊢
  by_cases h1:k=1
  ·subst h1
   simp only[if_true,Bool.and_eq_true,decide_eq_true_eq] at hok hl ⊢
   obtain⟨rfl,hl0⟩:=hok
   have:=List.eq_nil_of_length_eq_zero hl0
   subst this
   rw[List.cons_append,o0_ b _ (by rfl),pB_ _ _ (Nat.le_refl _) 0 0 r (by omega) (by have:=rh_ hI;unfold isU at this;omega) (.inl rfl)]
   simp[wu_]
  rw[if_neg h1] at hok hl ⊢
  by_cases h2:k=2
  ·subst h2
   simp only[if_true,Bool.and_eq_true,decide_eq_true_eq] at hok hl ⊢
   obtain⟨rfl,hl0⟩:=hok
   have:=List.eq_nil_of_length_eq_zero hl0
   subst this
   have hs:s.data.toList.length=s.size:=rfl
   simp only[List.length_cons,List.length_append] at hl
   rw[List.cons_append,oZ_ b _ (by rfl),List.append_assoc,lr_ (by unfold isU;omega) (by simp[hs])]
   simp only[Option.map_some,Option.some.injEq,Prod.mk.injEq]
   rw[← hs,List.take_left,List.drop_left,uh_]
   exact⟨rfl,rfl⟩
  rw[if_neg h2] at hok hl ⊢
  by_cases h3:k=3
  ·subst h3
   simp only[if_true,Bool.and_eq_true,decide_eq_true_eq] at hok
   obtain⟨⟨rfl,rfl⟩,hokl⟩:=hok
   rw[V.dep,if_pos rfl] at hd
   obtain⟨b',rfl⟩:∃ b',b=b'+1:=⟨b-1,by omega⟩
   simp only[List.length_cons,List.length_append] at hl
   have hll:=fO_ l
   rw[List.cons_append,oY_ b' _ (by rfl),List.append_assoc,lr_ (by unfold isU;omega) (by simp;omega)]
   simp only[Option.bind_some]
   rw[tJ_ l b' r hokl (c3_ hr).2 (by omega) (by omega)]
   rfl
  ·rw[if_neg h3] at hok
   cases hok
theorem tJ_:∀ (l:List V) (b:Nat) (r:List UInt8),cq_ l=true→ba_ l=true→bb_ l≤b→(aC_ l).length≤1000000000000→pMany (pVal b) l.length (aC_ l++r)=some (l,r)
 | [],b,r,_,_,_,_=>rfl
 | v::l,b,r,hok,hr,hd,hl=>by
  rw[cq_,Bool.and_eq_true] at hok
  rw[ba_,Bool.and_eq_true] at hr
  rw[bb_] at hd
  rw[aC_,List.length_append] at hl
  rw[aC_,List.length_cons,pMany,List.append_assoc,pU_ v b _ hok.1 hr.1 (by omega) (by omega)]
  simp only
  rw[tJ_ l b r hok.2 hr.2 (by omega) (by omega)]
end
def Wr (b:Nat) (bs:List UInt8) (v:V) (r:List UInt8):Prop:=bs=v.enc++r∧v.ok=true∧v.dep≤b∧v.rng=true
theorem Wr.many {b:Nat} (h:∀ bs v r,bs.length≤1000000000000→pVal b bs=some (v,r)→Wr b bs v r):∀ (n:Nat) (bs:List UInt8) (l:List V) (r:List UInt8),bs.length≤1000000000000→pMany (pVal b) n bs=some (l,r) →
  bs=aC_ l++r∧cq_ l=true∧bb_ l≤b∧ba_ l=true∧l.length=n
 | 0,bs,l,r,_,hp=>by rw[pMany] at hp;cases hp;simp[aC_,cq_,bb_,ba_]
 | n+1,bs,l,r,hb,hp=>by
  rw[pMany] at hp
  split at hp
  ·cases hp
  ·rename_i v r1 h1
   split at hp
   ·cases hp
   ·rename_i l2 r2 h2
    cases hp
    obtain⟨rfl,e2,e3,e4⟩:=h bs v r1 hb h1
    obtain⟨rfl,f2,f3,f4,f5⟩:=Wr.many h n r1 l2 r (by simp at hb;omega) h2
    refine⟨by simp[aC_],by simp[cq_,e2,f2],by rw[bb_];omega,by simp[ba_,e4,f4],by simp[f5]⟩
theorem dw_ {c:UInt8} {n:Nat} (h:c.toNat=n) (hn:n<256):c=UInt8.ofNat n:=by subst h;simp
theorem tG_:∀ (b:Nat) (bs:List UInt8) (v:V) (r:List UInt8),bs.length≤1000000000000→pVal b bs=some (v,r)→Wr b bs v r
 | b,[],v,r,_,hp=>by cases b<;>(rw[pVal] at hp;cases hp)
 | b,c::bs,v,r,hb,hp=>by
  have hb1:bs.length≤1000000000000:=by simp at hb;omega
  by_cases h1:c.toNat=1
  ·rw[o0_ b bs h1] at hp
   cases hx:fd_ 0 0 bs with
   | none=>rw[hx] at hp;cases hp
   | some x =>
    obtain⟨u,r1⟩:=x
    rw[hx] at hp
    cases hp
    have hu:=sc_ bs 0 0 hx (by omega) (by simp)
    obtain⟨m,rfl,hm,_⟩:=kC_ bs 0 0 _ _ hx
    have:m=u:=by omega
    subst this
    have hz:=yM_ hu
    unfold isI at hz
    refine⟨?_,by simp[V.ok],by simp[V.dep],?_⟩
    ·rw[V.enc,if_pos rfl,wt_,dw_ h1 (by omega)];rfl
    ·simp[V.rng,ba_,hz,show (⟨#[]⟩:ByteArray).size=0 from rfl]
  by_cases h2:c.toNat=2
  ·rw[oZ_ b bs h2] at hp
   cases hx:iM_ bs with
   | none=>rw[hx] at hp;cases hp
   | some x =>
    obtain⟨n,r1⟩:=x
    rw[hx] at hp
    cases hp
    have hle:=fv_ hx
    have hd:=lN_ hx
    have hs:(⟨(r1.take n).toArray⟩:ByteArray).size=n:=by show (r1.take n).toArray.size=n;simp;omega
    refine⟨?_,by simp[V.ok],by simp[V.dep],?_⟩
    ·rw[V.enc,if_neg (by omega),if_pos rfl,hs,hd,dw_ h2 (by omega)]
     simp
    ·simp only[V.rng,ba_,hs,Bool.and_true,Bool.and_eq_true,decide_eq_true_eq]
     omega
  by_cases h3:c.toNat=3
  ·cases b with
   | zero=>rw[ny_ bs h3] at hp;cases hp
   | succ b =>
    rw[oY_ b bs h3] at hp
    cases hx:iM_ bs with
    | none=>rw[hx] at hp;cases hp
    | some x =>
     obtain⟨n,r1⟩:=x
     rw[hx,Option.bind_some] at hp
     cases hy:pMany (pVal b) n r1 with
     | none=>simp only[hy] at hp;cases hp
     | some y =>
      obtain⟨l,r2⟩:=y
      simp only[hy] at hp
      cases hp
      have hle:=fv_ hx
      have hd:=lN_ hx
      obtain⟨rfl,f2,f3,f4,rfl⟩:=Wr.many (fun bs v r=>tG_ b bs v r) n r1 l r2 (by omega) hy
      refine⟨?_,by simp[V.ok,f2],by rw[V.dep,if_pos rfl];exact Nat.succ_le_succ f3,?_⟩
      ·rw[V.enc,if_neg (by omega),if_neg (by omega),hd,dw_ h3 (by omega)]
       simp
      ·simp only[V.rng,f4,Bool.and_true,Bool.and_eq_true,decide_eq_true_eq]
       refine⟨⟨by omega,?_⟩,by omega⟩
       show (#[]:Array UInt8).size≤_
       simp
  ·rw[sa_ b bs h1 h2 h3] at hp;cases hp
end Go.Proofs.YtfgcgagcpnbgmaaGreatDoor
namespace Go.Proofs.YtfgcgagcpnbgmaaGreatDoor
open Go.Xe Go.RowKit
end Go.Proofs.YtfgcgagcpnbgmaaGreatDoor
