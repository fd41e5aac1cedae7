/-
  Joined texts.
-/
import Derived.Test.YtfgcgagcpnbgmaaGreatDoorG5
import Derived.Test.YtfgcgagcpnbgmaaGreatDoorG3
set_option linter.all false
set_option maxRecDepth 10000
set_option maxHeartbeats 4000000
namespace Go.Proofs.YtfgcgagcpnbgmaaGreatDoor
open Go.Xe Go.RowKit
def pc (ch:List PanicEntry):Prop:=ch=[{ v:=.iface 36 (.int .i64 20),recovered:=false }]
@[simp] def rdB (bs:List UInt8):Box:=.cells 305 [.d (slB bs)]
attribute [simp] po_ DP_
theorem eQ_:Fun Tryz.prog 236 [.d .any,.d (.v (.bool true))] [] (.d .any) [] fun _=>False:=by
 refine ad_ (pn:=an_) ac_ Tryz.func236 rfl fun β0=>?_
 simp only[Tryz.f236]
 refine sG ?_
 refine cF (by simp) ?_
 refine WP.skip ?_
 refine finQ.normal ?_
 simp
theorem iW_:Fun Tryz.prog 236 [.d .any,.d (.v (.bool false))] [] (.d .any) [(0,po_)] pc:=by
 refine ad_ (pn:=⟨pc,[],[]⟩) ac_ Tryz.func236 rfl fun β0=>?_
 simp only[Tryz.f236]
 refine sG ?_
 refine cT (by simp) ?_
 refine WP.region ac_ ?_
 simp -dsimp
 refine vcStop.panic 0 rfl rfl rfl (by simp) (by simp) ?_
 simp -dsimp
 refine finQ.normal ?_
 simp
theorem d9_ (bs:List UInt8) (n:Nat) (h:n≤bs.length):Fun Tryz.prog 256 [.ptr 1000 0,.d (.v (.int .i64 n))] [(1000,rdB bs)] (.d (slB (bs.take n))) [(1000,rdB (bs.drop n))] fun _=>False:=by
 refine ad_ (pn:=an_) ac_ Tryz.func256 rfl fun β0=>?_
 simp only[Tryz.f256]
 have e1:bys (bs.take n)=(bys bs).take n:=by rw[bys,bys,List.map_take]
 have e2:bys (bs.drop n)=(bys bs).drop n:=by rw[bys,bys,List.map_drop]
 have e3:((bs.length:Int)-n).toNat=bs.length-n:=by omega
 have e4:min n bs.length=n:=by omega
 refine sG ?_
 refine vcStop.call aB_ (eQ_) (rl []) rfl rfl (by simp[h,BoxLeq]) (ag_ (by simp[h,BoxLeq]) rfl (by first|rfl|(simp[h,BoxLeq];done)) (by simp[h,BoxLeq]) (by simp[h,BoxLeq])) (fun _ h=>h.elim) (fun ⟨_,h⟩=>h.elim) (fun ⟨_,h⟩=>h.elim) (by simp[h,BoxLeq]) ?_
 simp -dsimp
 refine sG ?_
 refine WP.ret (aW_ (S':=mkS 32 [(4,.d (slB (bs.take n)))] [(1000,rdB (bs.drop n))]) (af_ [] (by simp[e1,e4]) (by simp[e2,e3];exact List.take_of_length_le (by simp))) ?_)
 simp
theorem xV_ (bs:List UInt8) (n:Nat) (h:bs.length<n):Fun Tryz.prog 256 [.ptr 1000 0,.d (.v (.int .i64 n))] [(1000,rdB bs)] (.d (slB [0])) [(1000,rdB []),(0,po_)] pc:=by
 refine ad_ (pn:=⟨pc,[],[]⟩) ac_ Tryz.func256 rfl fun β0=>?_
 simp only[Tryz.f256]
 have hn:¬ n≤bs.length:=by omega
 refine sG ?_
 refine vcStop.call aB_ (iW_) (rl [(0,600)]) rfl rfl (by simp[hn,BoxLeq]) (ag_ (by simp[hn,BoxLeq]) rfl (by first|rfl|(simp[hn,BoxLeq];done)) (by simp[hn,BoxLeq]) (by simp[hn,BoxLeq])) (fun _ h=>by first|exact h|exact⟨by assumption,h⟩) (fun _ _ h=>by cases h) (fun _ _ _=>rfl) (by simp[hn,BoxLeq]) ?_
 simp -dsimp
 refine a3_ 600 (by simp)
end Go.Proofs.YtfgcgagcpnbgmaaGreatDoor
namespace Go.Proofs.YtfgcgagcpnbgmaaGreatDoor
open Go.Xe Go.RowKit
def ey_:Nat→Nat→List UInt8→Option (Nat×List UInt8)
 | _,_,[]=>none
 | i,u,c::r=>if (i=0∨c.toNat≠0)∧(i<9∨c.toNat≤1) then (if c.toNat<128 then some (u+c.toNat%128*128^i,r) else ey_ (i+1) (u+c.toNat%128*128^i) r) else none
set_option maxRecDepth 100000 in
theorem dL_ (c:UInt8):bits .and .u8 (c.toNat:Int) 127=((c.toNat%128:Nat):Int):=by
 have:∀ c:Fin 256,bits .and .u8 ((c.val:Nat):Int) 127=((c.val%128:Nat):Int):=by decide
 exact this ⟨c.toNat,c.toNat_lt⟩
theorem p7 (i:Nat):128^i=2^(7*i):=by rw[Nat.pow_mul]
theorem fO_ {i u:Nat} {c:UInt8} (hi:i≤9) (hu:u<128^i) (hc:i<9∨c.toNat≤1) :
  bits .or .u64 (u:Int) (IntKind.u64.wrap (IntKind.u64.wrap ((c.toNat%128:Nat):Int)*2^shN .u64 (7*(i:Int))))=((u+c.toNat%128*128^i:Nat):Int)∧u+c.toNat%128*128^i<18446744073709551616:=by
 have hm:c.toNat%128<128:=Nat.mod_lt _ (by omega)
 have hs:shN .u64 (7*(i:Int))=7*i:=by
  show min (7*(i:Int)).toNat 64=7*i
  omega
 have hlt:c.toNat%128*128^i+u<18446744073709551616:=by
  rcases hc with h|h
  ·have h1:128^i≤128^8:=Nat.pow_le_pow_right (by omega) (by omega)
   have h2:c.toNat%128*128^i≤127*128^8:=Nat.mul_le_mul (by omega) h1
   have h3:(128:Nat)^8=72057594037927936:=by decide
   omega
  ·have h1:128^i≤128^9:=Nat.pow_le_pow_right (by omega) hi
   have h2:c.toNat%128*128^i≤1*128^9:=Nat.mul_le_mul (by omega) h1
   have h3:(128:Nat)^9=9223372036854775808:=by decide
   omega
 have hw:IntKind.u64.wrap ((c.toNat%128:Nat):Int)=((c.toNat%128:Nat):Int):=IntWalk.u64_in _ (by omega)
 have hw2:IntKind.u64.wrap (((c.toNat%128:Nat):Int)*2^(7*i))=((c.toNat%128*128^i:Nat):Int):=by
  have e:(((c.toNat%128:Nat):Int)*2^(7*i))=((c.toNat%128*128^i:Nat):Int):=by rw[p7];push_cast;rfl
  rw[e]
  exact IntWalk.u64_in _ (by omega)
 refine⟨?_,by omega⟩
 rw[hs,hw,hw2,bits_or_u64_nat _ _ (by omega) (by omega)]
 have h:=Nat.shiftLeft_add_eq_or_of_lt (b:=u) (i:=7*i) (by rw[← p7];exact hu) (c.toNat%128)
 rw[Nat.shiftLeft_eq,← p7] at h
 rw[Nat.or_comm,← h,Nat.add_comm]
theorem fH_:∀ (r:List UInt8) (i u:Nat) {x:Nat} {r':List UInt8},ey_ i u r=some (x,r')→r'.length<r.length
 | [],_,_,_,_,h=>by rw[ey_] at h;cases h
 | c::r,i,u,x,r',h=>by
  rw[ey_] at h
  split at h
  ·split at h
   ·cases h;simp
   ·have:=fH_ r _ _ h;simp;omega
  ·cases h
@[local simp] theorem lG_ (c:UInt8):a8_ c=.v (.int .u8 c.toNat):=rfl
def s46 (i u:Nat) (bs:List UInt8):St:=mkS 38 [(0,.ptr 1000 0),(2,.d (.v (.int .u64 u))),(3,.d (.v (.int .i64 i)))] [(1000,rdB bs)]
theorem ut_ (bs:List UInt8) {x:Nat} {r':List UInt8} (h:ey_ 0 0 bs=some (x,r')):Fun Tryz.prog 258 [.ptr 1000 0] [(1000,rdB bs)] (.d (.v (.int .u64 x))) [(1000,rdB r')] fun _=>False:=by
 refine ad_ (pn:=an_) ac_ Tryz.func258 rfl fun β0=>?_
 simp only[Tryz.f258]
 refine sG ?_
 refine ai_ (fun m S=>∃ i u r,m=r.length∧i≤9∧u<128^i∧ey_ i u r=some (x,r')∧S=s46 i u r) bs.length (S0:=s46 0 0 bs) (af_ [] (by simp[s46]) (by simp[s46])) ⟨0,0,bs,rfl,by omega,by simp,h,rfl⟩ ?_
 rintro _ _ ⟨i,u,r,rfl,hi,hu,hp,rfl⟩
 simp -dsimp[s46]
 cases r with
 | nil=>rw[ey_] at hp;cases hp
 | cons c r =>
  rw[ey_] at hp
  split at hp
  ·rename_i hc
   obtain⟨hst,hbd⟩:=fO_ hi hu hc.2
   have hst':bits .or .u64 (u:Int) (IntKind.u64.wrap (IntKind.u64.wrap ((c.toNat:Int)%128)*2^shN .u64 (7*(i:Int))))=(u:Int)+(c.toNat:Int)%128*128^i:=by simpa using hst
   have e7:IntKind.i64.wrap (7*(i:Int))=7*(i:Int):=IntWalk.i64_in _ (by omega)
   have e8:IntKind.i64.wrap ((i:Int)+1)=(i:Int)+1:=IntWalk.i64_in _ (by omega)
   have hnx:¬ c.toNat<128→i+1≤9:=by omega
   have hun:u+c.toNat%128*128^i<128^(i+1):=by
    have h1:c.toNat%128*128^i≤127*128^i:=Nat.mul_le_mul_right _ (by omega)
    rw[Nat.pow_succ];omega
   have hci:i=0∨(¬ i=0∧¬ c.toNat=0∧i<9)∨(¬ i=0∧¬ c.toNat=0∧i=9∧c.toNat≤1):=by omega
   rcases hci with h0|⟨h0,hc0,h9⟩|⟨h0,hc0,h9,hc1⟩
   ·have h0':decide (i=0)=true:=by simp[h0]
    have h9':(i:Int)<9:=by omega
    refine sG ?_
    refine vcStop.call aJ_ (d9_ (c::r) 1 (by simp)) (rl []) rfl rfl (by simp[BoxLeq]) aGq (fun _ h=>h.elim) (fun ⟨_,h⟩=>h.elim) (fun ⟨_,h⟩=>h.elim) (by simp[BoxLeq]) ?_
    simp -dsimp
    repeat(first|apply wG|(apply wR;simp -dsimp[h0',h9',e7,dL_,hst'])|refine aI ?_)
    refine vcStop.call aB_ (eQ_) (rl []) rfl rfl (by simp[h0',h9',BoxLeq]) (ag_ (by simp[h0',h9',BoxLeq]) rfl (by first|rfl|(simp[h0',h9',BoxLeq];done)) (by simp[h0',h9',BoxLeq]) (by simp[h0',h9',BoxLeq])) (fun _ h=>h.elim) (fun ⟨_,h⟩=>h.elim) (fun ⟨_,h⟩=>h.elim) (by simp[h0',h9',BoxLeq]) ?_
    simp -dsimp
    repeat(first|apply wG|(apply wR;simp -dsimp[e7,dL_,hst'])|refine aI ?_)
    refine WP.cond (b:=decide (c.toNat<128)) (by simp[show ((c.toNat:Int)<128)↔c.toNat<128 by omega]) (fun hb=>?_) (fun hb=>?_)
    ·have hb:=of_decide_eq_true hb
     rw[if_pos hb] at hp
     cases hp
     refine sG ?_
     refine WP.ret (finQ.ret ?_)
     simp -dsimp
    ·have hb:=of_decide_eq_false hb
     rw[if_neg hb] at hp
     refine WP.skip ?_
     simp -dsimp
     refine sG ?_
     refine loopW.next (s46 (i+1) (u+c.toNat%128*128^i) r) (af_ [] (by simp[s46,e8]) (by simp[s46])) r.length (by simp) ⟨i+1,_,r,rfl,hnx hb,hun,hp,rfl⟩
   ·have h9':(i:Int)<9:=by omega
    refine sG ?_
    refine vcStop.call aJ_ (d9_ (c::r) 1 (by simp)) (rl []) rfl rfl (by simp[BoxLeq]) aGq (fun _ h=>h.elim) (fun ⟨_,h⟩=>h.elim) (fun ⟨_,h⟩=>h.elim) (by simp[BoxLeq]) ?_
    simp -dsimp
    repeat(first|apply wG|(apply wR;simp -dsimp[h0,hc0,h9',e7,dL_,hst'])|refine aI ?_)
    refine vcStop.call aB_ (eQ_) (rl []) rfl rfl (by simp[h0,hc0,h9',BoxLeq]) (ag_ (by simp[h0,hc0,h9',BoxLeq]) rfl (by first|rfl|(simp[h0,hc0,h9',BoxLeq];done)) (by simp[h0,hc0,h9',BoxLeq]) (by simp[h0,hc0,h9',BoxLeq])) (fun _ h=>h.elim) (fun ⟨_,h⟩=>h.elim) (fun ⟨_,h⟩=>h.elim) (by simp[h0,hc0,h9',BoxLeq]) ?_
    simp -dsimp
    repeat(first|apply wG|(apply wR;simp -dsimp[e7,dL_,hst'])|refine aI ?_)
    refine WP.cond (b:=decide (c.toNat<128)) (by simp[show ((c.toNat:Int)<128)↔c.toNat<128 by omega]) (fun hb=>?_) (fun hb=>?_)
    ·have hb:=of_decide_eq_true hb
     rw[if_pos hb] at hp
     cases hp
     refine sG ?_
     refine WP.ret (finQ.ret ?_)
     simp -dsimp
    ·have hb:=of_decide_eq_false hb
     rw[if_neg hb] at hp
     refine WP.skip ?_
     simp -dsimp
     refine sG ?_
     refine loopW.next (s46 (i+1) (u+c.toNat%128*128^i) r) (af_ [] (by simp[s46,e8]) (by simp[s46])) r.length (by simp) ⟨i+1,_,r,rfl,hnx hb,hun,hp,rfl⟩
   ·have h9':¬ (i:Int)<9:=by omega
    have hc1':(c.toNat:Int)≤1:=by omega
    refine sG ?_
    refine vcStop.call aJ_ (d9_ (c::r) 1 (by simp)) (rl []) rfl rfl (by simp[BoxLeq]) aGq (fun _ h=>h.elim) (fun ⟨_,h⟩=>h.elim) (fun ⟨_,h⟩=>h.elim) (by simp[BoxLeq]) ?_
    simp -dsimp
    repeat(first|apply wG|(apply wR;simp -dsimp[h0,hc0,h9',hc1',e7,dL_,hst'])|refine aI ?_)
    refine vcStop.call aB_ (eQ_) (rl []) rfl rfl (by simp[h0,hc0,h9',hc1',BoxLeq]) (ag_ (by simp[h0,hc0,h9',hc1',BoxLeq]) rfl (by first|rfl|(simp[h0,hc0,h9',hc1',BoxLeq];done)) (by simp[h0,hc0,h9',hc1',BoxLeq]) (by simp[h0,hc0,h9',hc1',BoxLeq])) (fun _ h=>h.elim) (fun ⟨_,h⟩=>h.elim) (fun ⟨_,h⟩=>h.elim) (by simp[h0,hc0,h9',hc1',BoxLeq]) ?_
    simp -dsimp
    repeat(first|apply wG|(apply wR;simp -dsimp[e7,dL_,hst'])|refine aI ?_)
    refine WP.cond (b:=decide (c.toNat<128)) (by simp[show ((c.toNat:Int)<128)↔c.toNat<128 by omega]) (fun hb=>?_) (fun hb=>?_)
    ·have hb:=of_decide_eq_true hb
     rw[if_pos hb] at hp
     cases hp
     refine sG ?_
     refine WP.ret (finQ.ret ?_)
     simp -dsimp
    ·have hb:=of_decide_eq_false hb
     rw[if_neg hb] at hp
     refine WP.skip ?_
     simp -dsimp
     refine sG ?_
     refine loopW.next (s46 (i+1) (u+c.toNat%128*128^i) r) (af_ [] (by simp[s46,e8]) (by simp[s46])) r.length (by simp) ⟨i+1,_,r,rfl,hnx hb,hun,hp,rfl⟩
  ·cases hp
theorem xT_ (bs:List UInt8) (h:ey_ 0 0 bs=none):Fun Tryz.prog 258 [.ptr 1000 0] [(1000,rdB bs)] (.d (.v (.int .u64 0))) [(1000,rdB []),(0,po_)] pc:=by
 refine ad_ (pn:=⟨pc,[],[]⟩) ac_ Tryz.func258 rfl fun β0=>?_
 simp only[Tryz.f258]
 refine sG ?_
 refine ai_ (fun m S=>∃ i u r,m=r.length∧i≤9∧u<128^i∧ey_ i u r=none∧S=s46 i u r) bs.length (S0:=s46 0 0 bs) (af_ [] (by simp[s46]) (by simp[s46])) ⟨0,0,bs,rfl,by omega,by simp,h,rfl⟩ ?_
 rintro _ _ ⟨i,u,r,rfl,hi,hu,hp,rfl⟩
 simp -dsimp[s46]
 cases r with
 | nil =>
  refine sG ?_
  refine vcStop.call aJ_ (xV_ [] 1 (by simp)) (rl [(0,600)]) rfl rfl (by simp[BoxLeq]) aGq (fun _ h=>by first|exact h|exact⟨by assumption,h⟩) (fun _ _ h=>by cases h) (fun _ _ _=>rfl) (by simp[BoxLeq]) ?_
  simp -dsimp
  repeat refine aI ?_
  refine a3_ 600 (by simp)
 | cons c r =>
  rw[ey_] at hp
  split at hp
  ·rename_i hc
   obtain⟨hst,hbd⟩:=fO_ hi hu hc.2
   have hst':bits .or .u64 (u:Int) (IntKind.u64.wrap (IntKind.u64.wrap ((c.toNat:Int)%128)*2^shN .u64 (7*(i:Int))))=(u:Int)+(c.toNat:Int)%128*128^i:=by simpa using hst
   have e7:IntKind.i64.wrap (7*(i:Int))=7*(i:Int):=IntWalk.i64_in _ (by omega)
   have e8:IntKind.i64.wrap ((i:Int)+1)=(i:Int)+1:=IntWalk.i64_in _ (by omega)
   have hnx:¬ c.toNat<128→i+1≤9:=by omega
   have hun:u+c.toNat%128*128^i<128^(i+1):=by
    have h1:c.toNat%128*128^i≤127*128^i:=Nat.mul_le_mul_right _ (by omega)
    rw[Nat.pow_succ];omega
   have hci:i=0∨(¬ i=0∧¬ c.toNat=0∧i<9)∨(¬ i=0∧¬ c.toNat=0∧i=9∧c.toNat≤1):=by omega
   rcases hci with h0|⟨h0,hc0,h9⟩|⟨h0,hc0,h9,hc1⟩
   ·have h0':decide (i=0)=true:=by simp[h0]
    have h9':(i:Int)<9:=by omega
    refine sG ?_
    refine vcStop.call aJ_ (d9_ (c::r) 1 (by simp)) (rl []) rfl rfl (by simp[BoxLeq]) aGq (fun _ h=>h.elim) (fun ⟨_,h⟩=>h.elim) (fun ⟨_,h⟩=>h.elim) (by simp[BoxLeq]) ?_
    simp -dsimp
    repeat(first|apply wG|(apply wR;simp -dsimp[h0',h9',e7,dL_,hst'])|refine aI ?_)
    refine vcStop.call aB_ (eQ_) (rl []) rfl rfl (by simp[h0',h9',BoxLeq]) (ag_ (by simp[h0',h9',BoxLeq]) rfl (by first|rfl|(simp[h0',h9',BoxLeq];done)) (by simp[h0',h9',BoxLeq]) (by simp[h0',h9',BoxLeq])) (fun _ h=>h.elim) (fun ⟨_,h⟩=>h.elim) (fun ⟨_,h⟩=>h.elim) (by simp[h0',h9',BoxLeq]) ?_
    simp -dsimp
    repeat(first|apply wG|(apply wR;simp -dsimp[e7,dL_,hst'])|refine aI ?_)
    refine WP.cond (b:=decide (c.toNat<128)) (by simp[show ((c.toNat:Int)<128)↔c.toNat<128 by omega]) (fun hb=>?_) (fun hb=>?_)
    ·have hb:=of_decide_eq_true hb
     rw[if_pos hb] at hp
     cases hp
    ·have hb:=of_decide_eq_false hb
     rw[if_neg hb] at hp
     refine WP.skip ?_
     simp -dsimp
     refine sG ?_
     refine loopW.next (s46 (i+1) (u+c.toNat%128*128^i) r) (af_ [] (by simp[s46,e8]) (by simp[s46])) r.length (by simp) ⟨i+1,_,r,rfl,hnx hb,hun,hp,rfl⟩
   ·have h9':(i:Int)<9:=by omega
    refine sG ?_
    refine vcStop.call aJ_ (d9_ (c::r) 1 (by simp)) (rl []) rfl rfl (by simp[BoxLeq]) aGq (fun _ h=>h.elim) (fun ⟨_,h⟩=>h.elim) (fun ⟨_,h⟩=>h.elim) (by simp[BoxLeq]) ?_
    simp -dsimp
    repeat(first|apply wG|(apply wR;simp -dsimp[h0,hc0,h9',e7,dL_,hst'])|refine aI ?_)
    refine vcStop.call aB_ (eQ_) (rl []) rfl rfl (by simp[h0,hc0,h9',BoxLeq]) (ag_ (by simp[h0,hc0,h9',BoxLeq]) rfl (by first|rfl|(simp[h0,hc0,h9',BoxLeq];done)) (by simp[h0,hc0,h9',BoxLeq]) (by simp[h0,hc0,h9',BoxLeq])) (fun _ h=>h.elim) (fun ⟨_,h⟩=>h.elim) (fun ⟨_,h⟩=>h.elim) (by simp[h0,hc0,h9',BoxLeq]) ?_
    simp -dsimp
    repeat(first|apply wG|(apply wR;simp -dsimp[e7,dL_,hst'])|refine aI ?_)
    refine WP.cond (b:=decide (c.toNat<128)) (by simp[show ((c.toNat:Int)<128)↔c.toNat<128 by omega]) (fun hb=>?_) (fun hb=>?_)
    ·have hb:=of_decide_eq_true hb
     rw[if_pos hb] at hp
     cases hp
    ·have hb:=of_decide_eq_false hb
     rw[if_neg hb] at hp
     refine WP.skip ?_
     simp -dsimp
     refine sG ?_
     refine loopW.next (s46 (i+1) (u+c.toNat%128*128^i) r) (af_ [] (by simp[s46,e8]) (by simp[s46])) r.length (by simp) ⟨i+1,_,r,rfl,hnx hb,hun,hp,rfl⟩
   ·have h9':¬ (i:Int)<9:=by omega
    have hc1':(c.toNat:Int)≤1:=by omega
    refine sG ?_
    refine vcStop.call aJ_ (d9_ (c::r) 1 (by simp)) (rl []) rfl rfl (by simp[BoxLeq]) aGq (fun _ h=>h.elim) (fun ⟨_,h⟩=>h.elim) (fun ⟨_,h⟩=>h.elim) (by simp[BoxLeq]) ?_
    simp -dsimp
    repeat(first|apply wG|(apply wR;simp -dsimp[h0,hc0,h9',hc1',e7,dL_,hst'])|refine aI ?_)
    refine vcStop.call aB_ (eQ_) (rl []) rfl rfl (by simp[h0,hc0,h9',hc1',BoxLeq]) (ag_ (by simp[h0,hc0,h9',hc1',BoxLeq]) rfl (by first|rfl|(simp[h0,hc0,h9',hc1',BoxLeq];done)) (by simp[h0,hc0,h9',hc1',BoxLeq]) (by simp[h0,hc0,h9',hc1',BoxLeq])) (fun _ h=>h.elim) (fun ⟨_,h⟩=>h.elim) (fun ⟨_,h⟩=>h.elim) (by simp[h0,hc0,h9',hc1',BoxLeq]) ?_
    simp -dsimp
    repeat(first|apply wG|(apply wR;simp -dsimp[e7,dL_,hst'])|refine aI ?_)
    refine WP.cond (b:=decide (c.toNat<128)) (by simp[show ((c.toNat:Int)<128)↔c.toNat<128 by omega]) (fun hb=>?_) (fun hb=>?_)
    ·have hb:=of_decide_eq_true hb
     rw[if_pos hb] at hp
     cases hp
    ·have hb:=of_decide_eq_false hb
     rw[if_neg hb] at hp
     refine WP.skip ?_
     simp -dsimp
     refine sG ?_
     refine loopW.next (s46 (i+1) (u+c.toNat%128*128^i) r) (af_ [] (by simp[s46,e8]) (by simp[s46])) r.length (by simp) ⟨i+1,_,r,rfl,hnx hb,hun,hp,rfl⟩
  ·rename_i hc
   have hci:(¬ i=0∧c.toNat=0)∨(¬ i=0∧¬ c.toNat=0∧i=9∧1<c.toNat):=by omega
   rcases hci with⟨h0,hc0⟩|⟨h0,hc0,h9,hc1⟩
   ·have hc0':decide (c.toNat=0)=true:=by simp[hc0]
    refine sG ?_
    refine vcStop.call aJ_ (d9_ (c::r) 1 (by simp)) (rl []) rfl rfl (by simp[BoxLeq]) aGq (fun _ h=>h.elim) (fun ⟨_,h⟩=>h.elim) (fun ⟨_,h⟩=>h.elim) (by simp[BoxLeq]) ?_
    simp -dsimp
    repeat(first|apply wG|(apply wR;simp -dsimp[h0,hc0'])|refine aI ?_)
    refine vcStop.call aB_ (iW_) (rl [(0,600)]) rfl rfl (by simp[h0,hc0',BoxLeq]) (ag_ (by simp[h0,hc0',BoxLeq]) rfl (by first|rfl|(simp[h0,hc0',BoxLeq];done)) (by simp[h0,hc0',BoxLeq]) (by simp[h0,hc0',BoxLeq])) (fun _ h=>by first|exact h|exact⟨by assumption,h⟩) (fun _ _ h=>by cases h) (fun _ _ _=>rfl) (by simp[h0,hc0',BoxLeq]) ?_
    simp -dsimp
    refine a3_ 600 (by simp)
   ·have h9':¬ (i:Int)<9:=by omega
    have hc1':¬ (c.toNat:Int)≤1:=by omega
    refine sG ?_
    refine vcStop.call aJ_ (d9_ (c::r) 1 (by simp)) (rl []) rfl rfl (by simp[BoxLeq]) aGq (fun _ h=>h.elim) (fun ⟨_,h⟩=>h.elim) (fun ⟨_,h⟩=>h.elim) (by simp[BoxLeq]) ?_
    simp -dsimp
    repeat(first|apply wG|(apply wR;simp -dsimp[h0,hc0,h9',hc1'])|refine aI ?_)
    refine vcStop.call aB_ (iW_) (rl [(0,600)]) rfl rfl (by simp[h0,hc0,h9',hc1',BoxLeq]) (ag_ (by simp[h0,hc0,h9',hc1',BoxLeq]) rfl (by first|rfl|(simp[h0,hc0,h9',hc1',BoxLeq];done)) (by simp[h0,hc0,h9',hc1',BoxLeq]) (by simp[h0,hc0,h9',hc1',BoxLeq])) (fun _ h=>by first|exact h|exact⟨by assumption,h⟩) (fun _ _ h=>by cases h) (fun _ _ _=>rfl) (by simp[h0,hc0,h9',hc1',BoxLeq]) ?_
    simp -dsimp
    refine a3_ 600 (by simp)
end Go.Proofs.YtfgcgagcpnbgmaaGreatDoor
namespace Go.Proofs.YtfgcgagcpnbgmaaGreatDoor
open Go.Xe Go.RowKit
def gS_ (bs:List UInt8):Option (Nat×List UInt8) :=
 match ey_ 0 0 bs with
 | some (u,r)=>if u≤r.length then some (u,r) else none
 | none=>none
theorem xR_ (bs:List UInt8) (hb:bs.length≤1000000000000) {n:Nat} {r:List UInt8} (h:gS_ bs=some (n,r)):Fun Tryz.prog 259 [.ptr 1000 0] [(1000,rdB bs)] (.d (.v (.int .i64 n))) [(1000,rdB r)] fun _=>False:=by
 rw[gS_] at h
 split at h
 ·rename_i u r1 hp
  split at h
  ·rename_i hle
   cases h
   have hr:=fH_ bs 0 0 hp
   have e1:IntKind.u64.wrap (r.length:Int)=(r.length:Int):=IntWalk.u64_in _ (by omega)
   have e2:IntKind.i64.wrap (n:Int)=(n:Int):=IntWalk.i64_in _ (by omega)
   refine ad_ (pn:=an_) ac_ Tryz.func259 rfl fun β0=>?_
   simp only[Tryz.f259]
   refine sG ?_
   refine vcStop.call ce_ (ut_ bs hp) (rl []) rfl rfl (by simp[BoxLeq]) aGq (fun _ h=>h.elim) (fun ⟨_,h⟩=>h.elim) (fun ⟨_,h⟩=>h.elim) (by simp[BoxLeq]) ?_
   simp -dsimp
   repeat(first|apply wG|(apply wR;simp -dsimp[e1])|refine aI ?_)
   refine vcStop.call aB_ (eQ_) (rl []) rfl rfl (by simp[hle,BoxLeq]) (ag_ (by simp[hle,BoxLeq]) rfl (by first|rfl|(simp[hle,BoxLeq];done)) (by simp[hle,BoxLeq]) (by simp[hle,BoxLeq])) (fun _ h=>h.elim) (fun ⟨_,h⟩=>h.elim) (fun ⟨_,h⟩=>h.elim) (by simp[hle,BoxLeq]) ?_
   simp -dsimp
   repeat(first|apply wG|(apply wR;simp -dsimp[e2])|refine aI ?_)
   refine WP.ret (aW_ (S':=mkS 18 [(2,.d (.v (.int .i64 n)))] [(1000,rdB r)]) (af_ [] (by simp) (by simp)) ?_)
   simp
  ·cases h
 ·cases h
theorem xS_ (bs:List UInt8) (hb:bs.length≤1000000000000) (h:gS_ bs=none):Fun Tryz.prog 259 [.ptr 1000 0] [(1000,rdB bs)] (.d (.v (.int .i64 0))) [(1000,rdB []),(0,po_)] pc:=by
 rw[gS_] at h
 split at h
 ·rename_i u r hp
  split at h
  ·cases h
  ·rename_i hle
   have hr:=fH_ bs 0 0 hp
   have e1:IntKind.u64.wrap (r.length:Int)=(r.length:Int):=IntWalk.u64_in _ (by omega)
   refine ad_ (pn:=⟨pc,[],[]⟩) ac_ Tryz.func259 rfl fun β0=>?_
   simp only[Tryz.f259]
   refine sG ?_
   refine vcStop.call ce_ (ut_ bs hp) (rl []) rfl rfl (by simp[BoxLeq]) aGq (fun _ h=>h.elim) (fun ⟨_,h⟩=>h.elim) (fun ⟨_,h⟩=>h.elim) (by simp[BoxLeq]) ?_
   simp -dsimp
   repeat(first|apply wG|(apply wR;simp -dsimp[e1])|refine aI ?_)
   refine vcStop.call aB_ (iW_) (rl [(0,600)]) rfl rfl (by simp[hle,BoxLeq]) (ag_ (by simp[hle,BoxLeq]) rfl (by first|rfl|(simp[hle,BoxLeq];done)) (by simp[hle,BoxLeq]) (by simp[hle,BoxLeq])) (fun _ h=>by first|exact h|exact⟨by assumption,h⟩) (fun _ _ h=>by cases h) (fun _ _ _=>rfl) (by simp[hle,BoxLeq]) ?_
   simp -dsimp
   refine a3_ 600 (by simp)
 ·rename_i hp
  refine ad_ (pn:=⟨pc,[],[]⟩) ac_ Tryz.func259 rfl fun β0=>?_
  simp only[Tryz.f259]
  refine sG ?_
  refine vcStop.call ce_ (xT_ bs hp) (rl [(0,600)]) rfl rfl (by simp[BoxLeq]) aGq (fun _ h=>by first|exact h|exact⟨by assumption,h⟩) (fun _ _ h=>by cases h) (fun _ _ _=>rfl) (by simp[BoxLeq]) ?_
  simp -dsimp
  refine a3_ 600 (by simp)
end Go.Proofs.YtfgcgagcpnbgmaaGreatDoor
namespace Go.Proofs.YtfgcgagcpnbgmaaGreatDoor
open Go.Xe Go.RowKit
def pMany (p:List UInt8→Option (V×List UInt8)):Nat→List UInt8→Option (List V×List UInt8)
 | 0,r=>some ([],r)
 | n+1,r=>match p r with
  | none=>none
  | some (v,r')=>match pMany p n r' with
   | none=>none
   | some (l,r'')=>some (v::l,r'')
def pVal:Nat→List UInt8→Option (V×List UInt8)
 | _,[]=>none
 | 0,c::r=>if c.toNat=1 then (ey_ 0 0 r).map fun x=>(.mk 1 (zag x.1) ⟨#[]⟩ [],x.2) else if c.toNat=2 then (gS_ r).map fun x=>(.mk 2 0 ⟨(x.2.take x.1).toArray⟩ [],x.2.drop x.1) else none
 | b+1,c::r=>if c.toNat=1 then (ey_ 0 0 r).map fun x=>(.mk 1 (zag x.1) ⟨#[]⟩ [],x.2) else if c.toNat=2 then (gS_ r).map fun x=>(.mk 2 0 ⟨(x.2.take x.1).toArray⟩ [],x.2.drop x.1)
   else if c.toNat=3 then (gS_ r).bind fun x=>(pMany (pVal b) x.1 x.2).map fun y=>(.mk 3 0 ⟨#[]⟩ y.1,y.2) else none
theorem mD_ (b:Nat) {c:UInt8} (r:List UInt8) (h:c.toNat=1):pVal b (c::r)=(ey_ 0 0 r).map fun x=>(.mk 1 (zag x.1) ⟨#[]⟩ [],x.2):=by cases b<;>simp[pVal,h]
theorem mC_ (b:Nat) {c:UInt8} (r:List UInt8) (h:c.toNat=2):pVal b (c::r)=(gS_ r).map fun x=>(.mk 2 0 ⟨(x.2.take x.1).toArray⟩ [],x.2.drop x.1):=by cases b<;>simp[pVal,h]
theorem k1_ {c:UInt8} (r:List UInt8) (h:c.toNat=3):pVal 0 (c::r)=none:=by simp[pVal,h]
theorem mB_ (b:Nat) {c:UInt8} (r:List UInt8) (h:c.toNat=3):pVal (b+1) (c::r)=(gS_ r).bind fun x=>(pMany (pVal b) x.1 x.2).map fun y=>(.mk 3 0 ⟨#[]⟩ y.1,y.2):=by simp[pVal,h]
theorem qq_ (b:Nat) {c:UInt8} (r:List UInt8) (h1:c.toNat≠1) (h2:c.toNat≠2) (h3:c.toNat≠3):pVal b (c::r)=none:=by cases b<;>simp[pVal,h1,h2,h3]
theorem gp_ {bs:List UInt8} {n:Nat} {r:List UInt8} (h:gS_ bs=some (n,r)):n≤r.length∧r.length<bs.length:=by
 rw[gS_] at h
 split at h
 ·rename_i hp
  split at h
  ·rename_i hle
   cases h
   exact⟨hle,fH_ _ _ _ hp⟩
  ·cases h
 ·cases h
theorem qr_ {p:List UInt8→Option (V×List UInt8)} (hp:∀ r v r',p r=some (v,r')→r'.length<r.length):∀ (n:Nat) (r:List UInt8) {l:List V} {r':List UInt8},pMany p n r=some (l,r')→r'.length+n≤r.length∧l.length=n
 | 0,r,l,r',h=>by rw[pMany] at h;cases h;exact⟨Nat.le_refl _,rfl⟩
 | n+1,r,l,r',h=>by
  rw[pMany] at h
  split at h
  ·cases h
  ·rename_i v r1 h1
   split at h
   ·cases h
   ·rename_i l2 r2 h2
    cases h
    have:=hp _ _ _ h1
    have:=qr_ hp n r1 h2
    exact⟨by omega,by simp[this.2]⟩
theorem tG_:∀ (b:Nat) (bs:List UInt8) (v:V) (r:List UInt8),pVal b bs=some (v,r)→r.length<bs.length
 | b,[],v,r,h=>by cases b<;>(rw[pVal] at h;cases h)
 | b,c::s,v,r,h=>by
  by_cases h1:c.toNat=1
  ·rw[mD_ b s h1] at h
   cases hx:ey_ 0 0 s with
   | none=>rw[hx] at h;cases h
   | some x=>rw[hx] at h;cases h;have:=fH_ _ _ _ hx;simp;omega
  by_cases h2:c.toNat=2
  ·rw[mC_ b s h2] at h
   cases hx:gS_ s with
   | none=>rw[hx] at h;cases h
   | some x=>rw[hx] at h;cases h;have:=gp_ hx;simp;omega
  by_cases h3:c.toNat=3
  ·cases b with
   | zero=>rw[k1_ s h3] at h;cases h
   | succ b =>
    rw[mB_ b s h3] at h
    cases hx:gS_ s with
    | none=>rw[hx] at h;cases h
    | some x =>
     rw[hx,Option.bind_some] at h
     cases hy:pMany (pVal b) x.1 x.2 with
     | none=>rw[hy] at h;cases h
     | some y =>
      rw[hy] at h
      cases h
      have:=gp_ hx
      have:=(qr_ (tG_ b) _ _ hy).1
      simp;omega
  ·rw[qq_ b s h1 h2 h3] at h;cases h
theorem tH_:∀ (r:List UInt8) (i u:Nat) {x:Nat} {r':List UInt8},ey_ i u r=some (x,r')→i≤9→u<128^i→isU x
 | [],_,_,_,_,h,_,_=>by rw[ey_] at h;cases h
 | c::r,i,u,x,r',h,hi,hu=>by
  rw[ey_] at h
  split at h
  ·rename_i hc
   obtain⟨_,hbd⟩:=fO_ hi hu hc.2
   split at h
   ·cases h;exact hbd
   ·have h1:c.toNat%128*128^i≤127*128^i:=Nat.mul_le_mul_right _ (by omega)
    exact tH_ r _ _ h (by omega) (by rw[Nat.pow_succ];omega)
  ·cases h
@[simp] theorem Fk_ (l:List UInt8):List.map (unB∘AV.d) (bys l)=l:=by
 induction l with
 | nil=>rfl
 | cons c l ih=>simp only[bys,List.map_cons] at ih ⊢;rw[ih];simp[unB,ga_]
@[simp] theorem z8_ (l:List UInt8):(∀ a∈bys l,a=a8_ (unB (.d a)))↔True:=by
 refine⟨fun _=>trivial,fun _ a ha=>?_⟩
 obtain⟨c,_,rfl⟩:=List.mem_map.1 ha
 rw[sE_]
def rv:Option (V×List UInt8)→D
 | some x=>x.1.d
 | none=>(V.mk 0 0 ⟨#[]⟩ []).d
def ro:Option (V×List UInt8)→Bxs
 | some x=>[(1000,rdB x.2)]
 | none=>[(1000,rdB []),(0,po_)]
def rk (o:Option (V×List UInt8)) (ch:List PanicEntry):Prop:=o=none∧pc ch
theorem m1_ {b:Nat} {bs:List UInt8} {d:Int} (h:Fun Tryz.prog 235 [.ptr 1000 0,.d (.v (.int .i64 d))] [(1000,rdB bs)] (.d (rv (pVal b bs))) (ro (pVal b bs)) (rk (pVal b bs))) {v:V} {r:List UInt8} (hp:pVal b bs=some (v,r)) :
  Fun Tryz.prog 235 [.ptr 1000 0,.d (.v (.int .i64 d))] [(1000,rdB bs)] (.d v.d) [(1000,rdB r)] fun _=>False:=by
 rw[hp] at h
 intro w I β vs hm hd
 refine Calls.mono (h w I β vs hm hd) fun e w' he=>?_
 cases e with
 | returned v=>exact he
 | panicked ch=>exact absurd he.1.1 (by simp)
 | outgrown=>exact he
theorem m2_ {b:Nat} {bs:List UInt8} {d:Int} (h:Fun Tryz.prog 235 [.ptr 1000 0,.d (.v (.int .i64 d))] [(1000,rdB bs)] (.d (rv (pVal b bs))) (ro (pVal b bs)) (rk (pVal b bs))) (hp:pVal b bs=none) :
  Fun Tryz.prog 235 [.ptr 1000 0,.d (.v (.int .i64 d))] [(1000,rdB bs)] (.d (V.mk 0 0 ⟨#[]⟩ []).d) [(1000,rdB []),(0,po_)] pc:=by
 rw[hp] at h
 intro w I β vs hm hd
 refine Calls.mono (h w I β vs hm hd) fun e w' he=>?_
 cases e with
 | returned v=>exact he
 | panicked ch=>exact⟨he.1.2,he.2⟩
 | outgrown=>exact he
def s32 (d:Int) (n i:Nat) (l:List V) (r:List UInt8):St :=
 mkS 50 [(0,.ptr 1000 0),(1,.d (.v (.int .i64 d))),(4,.ptr 4 0),(36,.d (.v (.int .i64 n))),(37,.d (.v (.int .i64 i)))]
  [(1000,rdB r),(4,.cells 166 [.d (.v (.int .i64 3)),.d (.v (.int .i64 0)),.d (.v (.string ⟨#[]⟩)),.row 500]),(500,.row 166 4 l.length ((aq_ l).map .d))]
def zB_ (b:Nat):Prop:=b≤16→∀ (bs:List UInt8) (d:Int),d=16-b→bs.length≤1000000000000 →
  Fun Tryz.prog 235 [.ptr 1000 0,.d (.v (.int .i64 d))] [(1000,rdB bs)] (.d (rv (pVal b bs))) (ro (pVal b bs)) (rk (pVal b bs))
theorem xZ_ (b:Nat) (ih:∀ b',b=b'+1→zB_ b'):zB_ b:=by
  intro hb16 bs d hd hbs
  generalize ho:pVal b bs=o
  refine ad_ (pn:=⟨rk o,[],[]⟩) ac_ Tryz.func235 rfl fun β0=>?_
  simp only[Tryz.f235]
  cases bs with
  | nil =>
   have hn:o=none:=by rw[← ho];cases b<;>rfl
   refine sG ?_
   refine vcStop.call aJ_ (xV_ [] 1 (by simp)) (rl [(0,600)]) rfl rfl (by simp[BoxLeq]) aGq (fun _ h=>by first|exact h|exact⟨by assumption,h⟩) (fun _ _ h=>by cases h) (fun _ _ _=>rfl) (by simp[BoxLeq]) ?_
   simp -dsimp
   repeat refine aI ?_
   refine a3_ 600 (by simp)
  | cons c r =>
   have hw:IntKind.i64.wrap (c.toNat:Int)=(c.toNat:Int):=IntWalk.i64_in _ (by have:=c.toNat_lt;omega)
   have hr1:r.length≤1000000000000:=by simp at hbs;omega
   refine sG ?_
   refine vcStop.call aJ_ (d9_ (c::r) 1 (by simp)) (rl []) rfl rfl (by simp[BoxLeq]) aGq (fun _ h=>h.elim) (fun ⟨_,h⟩=>h.elim) (fun ⟨_,h⟩=>h.elim) (by simp[BoxLeq]) ?_
   simp -dsimp
   repeat(first|apply wG|(apply wR;simp -dsimp[hw])|refine aI ?_)
   refine WP.cond (b:=decide (c.toNat=1)) (by simp[show ((c.toNat:Int)=1)↔c.toNat=1 by omega]) (fun hb=>?_) (fun hb=>?_)
   ·have hb:=of_decide_eq_true hb
    rw[mD_ _ _ hb] at ho
    cases hp:ey_ 0 0 r with
    | none =>
     have hn:o=none:=by rw[← ho,hp];rfl
     refine sG ?_
     refine vcStop.call ce_ (xT_ r hp) (rl [(0,600)]) rfl rfl (by simp[BoxLeq]) aGq (fun _ h=>by first|exact h|exact⟨by assumption,h⟩) (fun _ _ h=>by cases h) (fun _ _ _=>rfl) (by simp[BoxLeq]) ?_
     simp -dsimp
     refine aa_ g2_ (xU_ (u:=0) (by unfold isU;omega)) rfl rfl (by simp) ?_
     simp -dsimp
     repeat refine aI ?_
     refine a3_ 600 (by simp)
    | some x =>
     obtain⟨u,r'⟩:=x
     have hu:=tH_ _ _ _ hp (by omega) (by simp)
     have hn:o=some (.mk 1 (zag u) ⟨#[]⟩ [],r'):=by rw[← ho,hp];rfl
     refine sG ?_
     refine vcStop.call ce_ (ut_ r hp) (rl []) rfl rfl (by simp[BoxLeq]) aGq (fun _ h=>h.elim) (fun ⟨_,h⟩=>h.elim) (fun ⟨_,h⟩=>h.elim) (by simp[BoxLeq]) ?_
     simp -dsimp
     refine aa_ g2_ (xU_ hu) rfl rfl (by simp) ?_
     simp -dsimp
     refine sG ?_
     refine WP.ret (ab_ ?_)
     simp -dsimp[hn,hb,rv,ro,V.d,V.cells,aq_]
   have hb1:¬ c.toNat=1:=of_decide_eq_false hb
   refine sG ?_
   refine WP.cond (b:=decide (c.toNat=2)) (by simp[show ((c.toNat:Int)=2)↔c.toNat=2 by omega]) (fun hb=>?_) (fun hb=>?_)
   ·have hb:=of_decide_eq_true hb
    rw[mC_ _ _ hb] at ho
    cases hp:gS_ r with
    | none =>
     have hn:o=none:=by rw[← ho,hp];rfl
     refine sG ?_
     refine vcStop.call cT_ (xS_ r hr1 hp) (rl [(0,600)]) rfl rfl (by simp[BoxLeq]) aGq (fun _ h=>by first|exact h|exact⟨by assumption,h⟩) (fun _ _ h=>by cases h) (fun _ _ _=>rfl) (by simp[BoxLeq]) ?_
     simp -dsimp
     refine vcStop.call aJ_ (d9_ [] 0 (by simp)) (rl []) rfl rfl (by simp[BoxLeq]) aGq (fun _ h=>h.elim) (fun ⟨_,h⟩=>h.elim) (fun ⟨_,h⟩=>h.elim) (by simp[BoxLeq]) ?_
     simp -dsimp
     repeat refine aI ?_
     refine a3_ 600 (by simp)
    | some x =>
     obtain⟨n,r'⟩:=x
     have hle:=gp_ hp
     have hn:o=some (.mk 2 0 ⟨(r'.take n).toArray⟩ [],r'.drop n):=by rw[← ho,hp];rfl
     refine sG ?_
     refine vcStop.call cT_ (xR_ r hr1 hp) (rl []) rfl rfl (by simp[BoxLeq]) aGq (fun _ h=>h.elim) (fun ⟨_,h⟩=>h.elim) (fun ⟨_,h⟩=>h.elim) (by simp[BoxLeq]) ?_
     simp -dsimp
     refine vcStop.call aJ_ (d9_ r' n hle.1) (rl []) rfl rfl (by simp[BoxLeq]) aGq (fun _ h=>h.elim) (fun ⟨_,h⟩=>h.elim) (fun ⟨_,h⟩=>h.elim) (by simp[BoxLeq]) ?_
     simp -dsimp
     refine sG ?_
     refine WP.ret (ab_ ?_)
     simp -dsimp[hn,hb,rv,ro,V.d,V.cells,aq_]
   have hb2:¬ c.toNat=2:=of_decide_eq_false hb
   refine sG ?_
   refine WP.cond (b:=decide (c.toNat=3)) (by simp[show ((c.toNat:Int)=3)↔c.toNat=3 by omega]) (fun hb=>?_) (fun hb=>?_)
   ·have hb:=of_decide_eq_true hb
    cases b with
    | zero =>
     have hn:o=none:=by rw[← ho,k1_ _ hb]
     have hd1:¬ d<16:=by omega
     refine sG ?_
     refine vcStop.call aB_ (iW_) (rl [(0,600)]) rfl rfl (by simp[hd1,BoxLeq]) (ag_ (by simp[hd1,BoxLeq]) rfl (by first|rfl|(simp[hd1,BoxLeq];done)) (by simp[hd1,BoxLeq]) (by simp[hd1,BoxLeq])) (fun _ h=>by first|exact h|exact⟨by assumption,h⟩) (fun _ _ h=>by cases h) (fun _ _ _=>rfl) (by simp[hd1,BoxLeq]) ?_
     simp -dsimp
     repeat refine aI ?_
     refine a3_ 600 (by simp)
    | succ b =>
     rw[mB_ _ _ hb] at ho
     have hd1:d<16:=by omega
     have hd2:IntKind.i64.wrap (d+1)=d+1:=IntWalk.i64_in _ (by omega)
     refine sG ?_
     refine vcStop.call aB_ (eQ_) (rl []) rfl rfl (by simp[hd1,BoxLeq]) (ag_ (by simp[hd1,BoxLeq]) rfl (by first|rfl|(simp[hd1,BoxLeq];done)) (by simp[hd1,BoxLeq]) (by simp[hd1,BoxLeq])) (fun _ h=>h.elim) (fun ⟨_,h⟩=>h.elim) (fun ⟨_,h⟩=>h.elim) (by simp[hd1,BoxLeq]) ?_
     simp -dsimp
     refine sG ?_
     cases hp:gS_ r with
     | none =>
      have hn:o=none:=by rw[← ho,hp];rfl
      refine vcStop.call cT_ (xS_ r hr1 hp) (rl [(0,600)]) rfl rfl (by simp[BoxLeq]) aGq (fun _ h=>by first|exact h|exact⟨by assumption,h⟩) (fun _ _ h=>by cases h) (fun _ _ _=>rfl) (by simp[BoxLeq]) ?_
      simp -dsimp
      repeat refine aI ?_
      refine a3_ 600 (by simp)
     | some x =>
      obtain⟨n,r'⟩:=x
      have hle:=gp_ hp
      rw[hp,Option.bind_some] at ho
      refine vcStop.call cT_ (xR_ r hr1 hp) (rl []) rfl rfl (by simp[BoxLeq]) aGq (fun _ h=>h.elim) (fun ⟨_,h⟩=>h.elim) (fun ⟨_,h⟩=>h.elim) (by simp[BoxLeq]) ?_
      simp -dsimp
      refine sG ?_
      refine ai_ (fun m S=>∃ l r,l.length+m=n∧r.length≤1000000000000∧(pMany (pVal b) m r).map (fun y=>(V.mk 3 0 ⟨#[]⟩ (l++y.1),y.2))=o∧S=s32 d n l.length l r) n (S0:=s32 d n 0 [] r')
       ((bf_ 4 3 500 166 4 (by simp;exact⟨rfl,rfl⟩) rfl (by simp)).trans (af_ [] (by simp[s32]) (by simp[s32,hb,aq_]))) ⟨[],r',by simp,by omega,by simpa using ho,rfl⟩ ?_
      rintro m _ ⟨l,r1,hl,hr2,ho1,rfl⟩
      simp -dsimp[s32]
      refine sG ?_
      cases m with
      | zero =>
       rw[pMany] at ho1
       simp only[Option.map_some,List.append_nil] at ho1
       refine cF (by simp;omega) ?_
       refine WP.exit ?_
       simp -dsimp
       refine sG ?_
       refine WP.ret (aj_ (Wk.freeze (k:=500) (T:=166) (sz:=4) (ds:=aq_ l) (by simp;rfl)) ?_)
       simp[← ho1,rv,ro,V.d,V.cells]
      | succ m =>
       rw[pMany] at ho1
       refine cT (by simp;omega) ?_
       refine WP.skip ?_
       simp -dsimp
       have e1:IntKind.i64.wrap ((l.length:Int)+1)=(l.length:Int)+1:=IntWalk.i64_in _ (by omega)
       refine WP.seq (WP.block ?_)
       refine i5_ ac_ dg_ ?_
       simp -dsimp[hd2]
       have h32:=ih b rfl (by omega) r1 (d+1) (by omega) hr2
       cases hv:pVal b r1 with
       | none =>
        have hn:o=none:=by rw[← ho1,hv];rfl
        refine vcStop.call cU_ (m2_ h32 hv) (rl [(0,600)]) rfl rfl (by simp[BoxLeq]) aGq (fun _ h=>by first|exact h|exact⟨by assumption,h⟩) (fun _ _ h=>by cases h) (fun _ _ _=>rfl) (by simp[BoxLeq]) ?_
        simp -dsimp[V.d,V.cells,aq_]
        repeat refine aI ?_
        refine a3_ 600 (by simp)
       | some x =>
        obtain⟨⟨k2,n2,s2,l2⟩,r2⟩:=x
        have hle2:=tG_ b _ _ _ hv
        rw[hv] at ho1
        simp only at ho1
        refine vcStop.call cU_ (m1_ h32 hv) (rl []) rfl rfl (by simp[BoxLeq]) aGq (fun _ h=>h.elim) (fun ⟨_,h⟩=>h.elim) (fun ⟨_,h⟩=>h.elim) (by simp[BoxLeq]) ?_
        simp -dsimp[V.d,V.cells]
        refine sG ?_
        refine loopW.next (s32 d n (l++[V.mk k2 n2 s2 l2]).length (l++[V.mk k2 n2 s2 l2]) r2) (Wk.go [45] 46 500 (by decide) (by simp[s32]) (by simp[s32,e1]) (by simp[s32,hb,bC_,aq_,V.cells])) m (by omega)
         ⟨l++[V.mk k2 n2 s2 l2],r2,by simp;omega,by omega,?_,rfl⟩
        rw[← ho1]
        cases pMany (pVal b) m r2 with
        | none=>rfl
        | some y=>simp
   ·have hb3:¬ c.toNat=3:=of_decide_eq_false hb
    have hn:o=none:=by rw[← ho,qq_ _ _ hb1 hb2 hb3]
    refine sG ?_
    refine vcStop.call aB_ (iW_) (rl [(0,600)]) rfl rfl (by simp[BoxLeq]) aGq (fun _ h=>by first|exact h|exact⟨by assumption,h⟩) (fun _ _ h=>by cases h) (fun _ _ _=>rfl) (by simp[BoxLeq]) ?_
    simp -dsimp
    repeat refine aI ?_
    refine a3_ 600 (by simp)
theorem zA_:∀ b,zB_ b
 | 0=>xZ_ 0 fun b' h=>by omega
 | b+1=>xZ_ (b+1) fun b' h=>(Nat.succ.inj h)▸zA_ b
end Go.Proofs.YtfgcgagcpnbgmaaGreatDoor
namespace Go.Proofs.YtfgcgagcpnbgmaaGreatDoor
open Go.Xe Go.RowKit
theorem kp_:Tryz.prog.underlying 20=some (.interface (Tryz.prog.methodsAt 20)):=by kernel_rfl
theorem f31_ret (v1 v2:Value) (w:World):CallsD Tryz.prog 234 #[v1,v2] .returning w fun e u' w'=>(∃ v,e=.returned v)∧u'=.returning∧w'=w:=by
 refine callsD_of_wpS Tryz.func234 rfl fun c₀ cs hu=>?_
 simp only[Tryz.f234]
 apply wpS_seq
 apply wpS_region
 simp[wpOpsS,go_sem,recoverD,hu,Exit.thenS]
 apply wpS_seq
 apply wpS_region
 simp[wpOpsS,go_sem,Exit.thenS,kp_]
 refine wpS_cond (t:=false) (by simp[Act.eval,Array.replicate]) ?_
 simp only[Bool.false_eq_true,if_false]
 refine wpS_of_wp (wp_skip ?_)
 cases c₀
 simp_all [bodyPostS,results]
def pe (b:Bool):PanicEntry:={ v:=.iface 36 (.int .i64 20),recovered:=b }
def w8_:Bxs:=[(1000,.cells 166 [.d (.v (.int .i64 0)),.d (.v (.int .i64 0)),.d (.v (.string ⟨#[]⟩)),.d (.v (.slice none 0 0))]),(1001,.cells 36 [.d (.v (.int .i64 20))])]
theorem zC_ {w0:World} {I0 F I:Nat→Prop} {β:Nat→Value} {w:World} {cs2 cs3:List AV} (h2:cs2.length=4) (h3:cs3.length=1) (hm:Mem w0 I0 F [(1000,.cells 166 cs2),(1001,.cells 36 cs3)] I β w) (b2 b3:Nat)
  (hp2:β 1000=.pointer (some ⟨b2,0,none⟩)) (hp3:β 1001=.pointer (some ⟨b3,0,none⟩)) :
  CallsD Tryz.prog 234 #[β 1000,β 1001] (.panicking [pe false]) w fun e u' w'=>(∃ v,e=.returned v)∧u'=.panicking [pe true]∧∃ I' β',Mem w0 I0 F w8_ I' β' w'∧β' 1000=β 1000∧β' 1001=β 1001:=by
 refine callsD_of_wpS Tryz.func234 rfl fun c₀ cs hu=>?_
 simp only[Tryz.f234]
 apply wpS_seq
 apply wpS_region
 simp[wpOpsS,go_sem,recoverD,hu,Exit.thenS,pe]
 apply wpS_seq
 apply wpS_region
 simp[wpOpsS,go_sem,Exit.thenS,kp_]
 refine wpS_cond (t:=true) (by simp[Act.eval,Array.replicate]) ?_
 simp only[if_true]
 obtain⟨c0,c1,c2,c3,rfl⟩:∃ c0 c1 c2 c3,cs2=[c0,c1,c2,c3]:=by
  match cs2,h2 with
  | [c0,c1,c2,c3],_=>exact⟨c0,c1,c2,c3,rfl⟩
 obtain⟨c4,rfl⟩:∃ c4,cs3=[c4]:=by
  match cs3,h3 with
  | [c4],_=>exact⟨c4,rfl⟩
 refine wpS_of_wp (wp_mono ((wpIn_wide (n:=1)).1 (i5_ ac_ dg_ (ds:=⟨[],β,none,false⟩) (pn:=an_) (Q:=fun e S=>e=.normal∧oH_ S.bx w8_)
  (S:=mkS 9 [(0,.ptr 1000 0),(1,.ptr 1001 0),(2,.d (.v (.iface 36 (.int .i64 20))))] [(1000,.cells 166 [c0,c1,c2,c3]),(1001,.cells 36 [c4])]) ?_ w0 I0 F I β _ w ?_)) ?_)
 ·simp -dsimp[w8_]
  repeat refine aI ?_
  exact rfl
 ·refine⟨hm,?_,⟨rfl,fun _=>rfl⟩,fun _ _=>rfl⟩
  simp[ri_,rh_,Array.replicate,oo_,DenA_v,hp2,hp3,DenA,Den]
 ·rintro e a' w' hh
  cases e with
  | normal =>
   obtain⟨S,I',β',⟨_,hb⟩,hr⟩:=hh
   refine⟨hr.dn.pan rfl,_,rfl,.tuple #[],by simp[results],⟨_,rfl⟩,rfl,I',β',hr.mem.sub (subB_ok hb),hr.fx _ (Nat.le_refl _),hr.fx _ (by omega)⟩
  | panic ch=>exact hh.1.elim
  | outgrown=>exact hh.elim
  | ret=>obtain⟨S,I',β',⟨h,_⟩,_⟩:=hh;cases h
  | exit id=>obtain⟨S,I',β',⟨h,_⟩,_⟩:=hh;cases h
  | goto l=>obtain⟨S,I',β',⟨h,_⟩,_⟩:=hh;cases h
@[simp] def c24 (c0 c1 c2 c3:D):Box:=.cells 166 [.d c0,.d c1,.d c2,.d c3]
def pDec (bs:List UInt8):V×Int :=
 match pVal 16 bs with
 | some (v,[])=>(v,0)
 | _=>(.mk 0 0 ⟨#[]⟩ [],20)
def m8_ (bs:List UInt8):D:=.tup [(pDec bs).1.d,.v (.int .i64 (pDec bs).2)]
def df (p2 p3:Value):Deferred:={ target:=.fn (.func 234) #[p2,p3],args := #[] }
def yz_ (bs:List UInt8):St:=mkS 20 [(0,.d (slB bs)),(2,.ptr 1000 0),(3,.ptr 1001 0)] [(1000,.cells 166 [.d (.v (.int .i64 0)),.d (.v (.int .i64 0)),.d (.v (.string ⟨#[]⟩)),.d (.v (.slice none 0 0))]),(1001,.cells 36 [.d (.v (.int .i64 0))])]
def Dz_ (bs:List UInt8):St:=mkS 20 [(2,.ptr 1000 0),(3,.ptr 1001 0),(4,.ptr 8 0)] [(1000,.cells 166 [.d (.v (.int .i64 0)),.d (.v (.int .i64 0)),.d (.v (.string ⟨#[]⟩)),.d (.v (.slice none 0 0))]),(1001,.cells 36 [.d (.v (.int .i64 0))]),(8,rdB bs)]
def Ai_ (k n:Int) (s:ByteArray) (l:List V) (r:List UInt8):St:=mkS 20 [(2,.ptr 1000 0),(3,.ptr 1001 0),(4,.ptr 8 0)] [(1000,c24 (.v (.int .i64 k)) (.v (.int .i64 n)) (.v (.string s)) (slV l)),(1001,.cells 36 [.d (.v (.int .i64 0))]),(8,rdB r)]
def yA_ (bs:List UInt8):St:=mkS 20 [(0,.d (slB bs)),(2,.ptr 2 0),(3,.ptr 3 0)] [(2,.cells 166 [.d (.v (.int .i64 0)),.d (.v (.int .i64 0)),.d (.v (.string ⟨#[]⟩)),.d (.v (.slice none 0 0))]),(3,.cells 36 [.d (.v (.int .i64 0))])]
theorem uv_ {w:World} {I:Nat→Prop} {β β0:Nat→Value} {I2:Nat→Prop} {β2:Nat→Value} {a2:Act} {w2:World} {c0 c1 c2 c3 c4:D} {r:List UInt8}
  (hr:Rel ⟨[df (β0 1000) (β0 1001)],β0,none,false⟩ w I (Fp [] β) (mkS 20 [(2,.ptr 1000 0),(3,.ptr 1001 0),(4,.ptr 8 0)] [(1000,c24 c0 c1 c2 c3),(1001,.cells 36 [.d c4]),(8,rdB r)]) I2 β2 a2 w2) {c:Code}
  (hW:∀ ds γ,WP Tryz.prog ⟨ds,γ,none,false⟩ ⟨pc,[],[(2,.d (.v (β0 1000))),(3,.d (.v (β0 1001)))]⟩ c (fun e S=>e=.normal∧getB S.bx 600=some po_) (mkS 20 [(2,.d (.v (β0 1000))),(3,.d (.v (β0 1001))),(4,.ptr 8 0)] [(8,rdB r)]))
  {R:Ending→World→Prop} (hR:∀ w' I' v,Mem w I (Fp [] β) [] I' β w'→Den w' I' (.tup [(V.mk 0 0 ⟨#[]⟩ []).d,.v (.int .i64 20)]) v→R (.returned v) w') (K:Act→World→Prop):c.wp Tryz.prog (Exit.then K (bodyPostD Tryz.prog Tryz.f185 R)) a2 w2:=by
 obtain⟨b2,vs2,hb2,_⟩:=hr.mem.bxs 1000 (c24 c0 c1 c2 c3) rfl
 obtain⟨b3,vs3,hb3,_⟩:=hr.mem.bxs 1001 (.cells 36 [.d c4]) rfl
 have e2:∃ y,a2.tmps.toList[2]? = some y∧y=β0 1000:=by
  obtain⟨y,hy,hd⟩:=hr.sl.get (i:=2) (x:=.ptr 1000 0) rfl
  rw[DenA] at hd
  obtain⟨b,h1,h2⟩:=hd
  exact⟨y,hy,(h2.trans h1.symm).trans (hr.fx 1000 (by omega))⟩
 have e3:∃ y,a2.tmps.toList[3]? = some y∧y=β0 1001:=by
  obtain⟨y,hy,hd⟩:=hr.sl.get (i:=3) (x:=.ptr 1001 0) rfl
  rw[DenA] at hd
  obtain⟨b,h1,h2⟩:=hd
  exact⟨y,hy,(h2.trans h1.symm).trans (hr.fx 1001 (by omega))⟩
 rw[hr.fx 1000 (by omega)] at hb2
 rw[hr.fx 1001 (by omega)] at hb3
 change β0 1000=_ at hb2
 change β0 1001=_ at hb3
 obtain⟨y2,e2,rfl⟩:=e2
 obtain⟨y3,e3,rfl⟩:=e3
 have hcb:∀ k b,getB [(8,rdB r)] k=some b→getB [(1000,c24 c0 c1 c2 c3),(1001,.cells 36 [.d c4]),(8,rdB r)] k=some b:=fun k b h=>by
  simp only[getB] at h ⊢
  split at h
  ·rename_i e;subst e;cases h;rfl
  ·cases h
 have hm:=hr.mem.start hcb
 have hsl:=DenAs.set (x:=.d (.v (β0 1001))) (y:=β0 1001) (w:=w2) (I:=I2) (β:=β2) (DenA_v.2 rfl) (DenAs.set (x:=.d (.v (β0 1000))) (y:=β0 1000) (w:=w2) (I:=I2) (β:=β2) (DenA_v.2 rfl) hr.sl 2) 3
 rw[set_self e2,set_self e3] at hsl
 have hr':Rel ⟨[df (β0 1000) (β0 1001)],β2,none,false⟩ w2 I2 (Fp [(8,rdB r)] β2) (mkS 20 [(2,.d (.v (β0 1000))),(3,.d (.v (β0 1001))),(4,.ptr 8 0)] [(8,rdB r)]) I2 β2 a2 w2:=⟨hm,hsl,hr.dn,fun _ _=>rfl⟩
 refine wp_mono ((wpIn_wide (n:=1)).1 (hW _ β2 w2 I2 _ I2 β2 a2 w2 hr')) ?_
 rintro e a3 w3 hh
 cases e with
 | normal =>
  obtain⟨S,I3,β3,⟨_,hb⟩,hr3⟩:=hh
  obtain⟨b,vs,_,_,hd,_⟩:=hr3.mem.bxs 600 _ hb
  obtain⟨v,vs',_,h1,_⟩:=hd
  rw[DenA] at h1
  exact (q3_ h1).elim
 | panic ch =>
  obtain⟨hok,bx,I3,β3,hp⟩:=hh
  have hm3:Mem w I (Fp [] β) [(1000,c24 c0 c1 c2 c3),(1001,.cells 36 [.d c4])] I3 β2 w3:=by
   refine hr.mem.keep (cb:=[(8,rdB r)]) (β':=β2) hcb ?_ fun k b h=>?_
   ·exact (hp.mem.sub (bx':=[]) (by simp[getB])).relabel id (by simp[getB]) (by simp[getB])
   ·simp only[getB] at h ⊢
    split at h
    ·rename_i e;subst e;exact⟨h,rfl⟩
    ·split at h
     ·rename_i e;subst e;exact⟨h,rfl⟩
     ·cases h
  have h31:=zC_ (cs2:=[.d c0,.d c1,.d c2,.d c3]) (cs3:=[.d c4]) rfl rfl hm3 b2 b3 ((hr.fx 1000 (by omega)).trans hb2) ((hr.fx 1001 (by omega)).trans hb3)
  rw[hr.fx 1000 (by omega),hr.fx 1001 (by omega)] at h31
  have hz2:=hp.zs (2,.d (.v (β0 1000))) (by simp)
  have hz3:=hp.zs (3,.d (.v (β0 1001))) (by simp)
  rw[DenA_v] at hz2 hz3
  show Leaves _ _ a3.tmps R a3.defers (.panicking ch) w3
  rw[hp.dn rfl,hok]
  show Leaves _ _ a3.tmps R [{ target:=.fn (.func 234) #[β0 1000,β0 1001],args := #[] }] (.panicking [pe false]) w3
  refine leaves_cons (f:=234) (args := #[β0 1000,β0 1001]) (fun h=>by cases h) (by simp[go_sem]) (CallsD.mono h31 ?_)
  rintro e u' w4 ⟨⟨v,rfl⟩,rfl,I4,β5,hm5,h6,h7⟩
  have hS:Rel ⟨[],β5,none,false⟩ w I (Fp [] β) ⟨[.d .any,.d .any,.ptr 1000 0,.ptr 1001 0],w8_,[]⟩ I4 β5 { tmps := #[undef,undef,β0 1000,β0 1001],defers:=[] } w4:=by
   refine⟨hm5,?_,⟨rfl,fun _=>rfl⟩,fun _ _=>rfl⟩
   simp[ri_,rh_,oo_,DenA,h6,h7,hb2,hb3,Den]
  obtain⟨us,hus,hdu⟩:=dW_ ac_ hS [.cell 2 166,.cell 3 36] (side:=(0+4≤4∧(true=false→4=1))∧(0+1≤1∧(false=false→1=1))∧True) (l:=[.agg [.d (.v (.int .i64 0)),.d (.v (.int .i64 0)),.d (.v (.string ⟨#[]⟩)),.d (.v (.slice none 0 0))],.d (.v (.int .i64 20))]) rfl (by simp)
  have hm6:Mem w I (Fp [] β) [] I4 β w4:=(hm5.sub (bx':=[]) (by simp[getB])).relabel id (by simp[getB]) (by simp[getB])
  refine⟨DF_ us,cr_ _ _ _ _ _ ?_,hR w4 I4 _ hm6 ?_⟩
  ·have he:∀ (t:Tmp) (ty:TypeId),(t=2∨t=3)→resV a3.tmps (.cell t ty)=resV #[undef,undef,β0 1000,β0 1001] (.cell t ty):=fun t ty ht=>by
    rcases ht with rfl|rfl
    ·simp only[resV];rw[show a3.tmps.getD 2 undef=β0 1000 from hz2];rfl
    ·simp only[resV];rw[show a3.tmps.getD 3 undef=β0 1001 from hz3];rfl
   have:(Tryz.f185).results.toList.mapM (resV a3.tmps)=[ResultVar.cell 2 166,ResultVar.cell 3 36].mapM (resV #[undef,undef,β0 1000,β0 1001]):=by
    show [ResultVar.cell 2 166,ResultVar.cell 3 36].mapM (resV a3.tmps)=_
    simp only[List.mapM_cons,List.mapM_nil,he 2 166 (.inl rfl),he 3 36 (.inr rfl)]
   rw[this];exact hus
  ·have:=hdu.one
   have hl:Leq (rR_ [AV.agg [.d (.v (.int .i64 0)),.d (.v (.int .i64 0)),.d (.v (.string ⟨#[]⟩)),.d (.v (.slice none 0 0))],.d (.v (.int .i64 20))]) (.d (.tup [(V.mk 0 0 ⟨#[]⟩ []).d,.v (.int .i64 20)])):=by
    simp[V.d,V.cells,aq_]
   exact hl _ _ _ _ this
 | outgrown=>exact hh.elim
 | ret=>obtain⟨S,I',β',⟨h,_⟩,_⟩:=hh;cases h
 | exit id=>obtain⟨S,I',β',⟨h,_⟩,_⟩:=hh;cases h
 | goto l=>obtain⟨S,I',β',⟨h,_⟩,_⟩:=hh;cases h
theorem B9_ (bs:List UInt8) (hbs:bs.length≤1000000000000):Fn0 Tryz.prog 185 [slB bs] (m8_ bs):=by
 intro w I β vs hm hd
 suffices h:∀ R:Ending→World→Prop,(∀ w' I' v,Mem w I (Fp [] β) [] I' β w'→Den w' I' (m8_ bs) v→R (.returned v) w')→Calls Tryz.prog 185 vs.toArray w R from
  h _ fun w' I' v hm' hv=>⟨I',β,hm',by rw[DenA];exact hv,fun _ _=>rfl⟩
 intro R hR
 refine calls_of_wp_defers Tryz.func185 rfl ?_
 have hr0:=Rel.enter hm hd 20
 simp only[Tryz.f185]
 refine wp_seq (wp_mono ((wpIn_wide (n:=1)).1 (WP.region ac_ (ds:=⟨[],β,none,false⟩) (pn:=an_) (Q:=fun e S=>e=.normal∧LeqL S.sl (yA_ bs).sl∧oH_ S.bx (yA_ bs).bx) ?_ w I _ I β _ w hr0)) ?_)
 ·simp -dsimp[yA_]
 ·rintro e a1 w1 hh
  cases e with
  | normal =>
   obtain⟨S,I1,β1,⟨_,h1,h2⟩,hr⟩:=hh
   obtain⟨I1,β1,hr1⟩:=eb_ h1 (subB_ok h2) (hr.dn.2 rfl).symm _ _ _ _ _ _ _ _ hr
   clear hr
   have e2:=hr1.ev (.tmp 2)
   have e3:=hr1.ev (.tmp 3)
   obtain⟨b2,hb2,e2⟩:∃ b2,β1 2=.pointer (some ⟨b2,0,none⟩)∧a1.eval (.tmp 2)=β1 2:=by
    simp only[yA_,St.ev,St.at] at e2
    obtain⟨b,h1,h2⟩:=e2
    exact⟨b,h1,h2.trans h1.symm⟩
   obtain⟨b3,hb3,e3⟩:∃ b3,β1 3=.pointer (some ⟨b3,0,none⟩)∧a1.eval (.tmp 3)=β1 3:=by
    simp only[yA_,St.ev,St.at] at e3
    obtain⟨b,h1,h2⟩:=e3
    exact⟨b,h1,h2.trans h1.symm⟩
   have hsz:a1.tmps.size=20:=by
    have:=hr1.sl.length
    simpa [yA_] using this.symm
   refine wp_seq (vC_ (t:=5) (g:=234) (caps := #[.tmp 2,.tmp 3]) rfl rfl rfl rfl rfl rfl (by omega) ?_)
   obtain⟨β0,hβ0⟩:∃ β0:Nat→Value,β0=upd (upd β 1000 (β1 2)) 1001 (β1 3):=⟨_,rfl⟩
   have hr2:Rel ⟨[df (β0 1000) (β0 1001)],β0,none,false⟩ w I (Fp [] β) (yz_ bs) I1 (upd (upd β1 1000 (β1 2)) 1001 (β1 3)) { a1.put (some 5) (.func (.func 234) #[] (#[Operand.tmp 2,.tmp 3].map a1.eval)) with defers:={ target:=.fn (.func 234) (#[Operand.tmp 2,.tmp 3].map a1.eval),args := #[] }::a1.defers } w1:=by
    have hd:∀ l:List D,∀ t,am_ t (l.map .d)=false:=fun l t=>hasL_d l
    refine⟨hr1.mem.relabel (fun k=>if k=1000 then 2 else 3) (fun k b h=>?_) fun k j b c h1 h2 he=>?_,?_,?_,fun k hk=>?_⟩
    ·simp only[yz_,mkS,getB] at h
     split at h
     ·rename_i e;subst e;cases h;exact⟨rfl,by simp[upd],fun t ht=>by simp[Box.cs,am_,AV.has] at ht⟩
     ·split at h
      ·rename_i e;subst e;cases h;exact⟨rfl,by simp[upd],fun t ht=>by simp[Box.cs,am_,AV.has] at ht⟩
      ·cases h
    ·have l:∀ k b,getB (yz_ bs).bx k=some b→k=1000∨k=1001:=fun k b h=>by
      simp only[yz_,mkS,getB] at h
      split at h
      ·rename_i e;exact .inl e.symm
      ·split at h
       ·rename_i e;exact .inr e.symm
       ·cases h
     rcases l k b h1 with rfl|rfl<;>rcases l j c h2 with rfl|rfl<;>simp at he ⊢
    ·have h:=(hr1.put (some 5) (x:=.d .any) (y:=.func (.func 234) #[] (#[Operand.tmp 2,.tmp 3].map a1.eval)) (bL_ _ _ _ _)).sl
     have h1:=DenAs.mono (β':=upd (upd β1 1000 (β1 2)) 1001 (β1 3)) (.refl w1 I1) _ _ (fun k hk=>by
      have:k=2∨k=3:=by
       simp[St.put,yA_,am_,AV.has] at hk
       rcases hk with rfl|rfl<;>simp
      rcases this with rfl|rfl<;>simp[upd]) h
     have h2:=DenAs.set (x:=.ptr 1001 0) (y:=β1 3) (w:=w1) (I:=I1) (β:=upd (upd β1 1000 (β1 2)) 1001 (β1 3)) (by rw[DenA];exact⟨b3,by simp[upd,hb3],hb3⟩)
      (DenAs.set (x:=.ptr 1000 0) (y:=β1 2) (w:=w1) (I:=I1) (β:=upd (upd β1 1000 (β1 2)) 1001 (β1 3)) (by rw[DenA];exact⟨b2,by simp[upd,hb2],hb2⟩) h1 2) 3
     have g:∀ (t:Nat) (y:Value),t<20→t≠5→a1.eval (.tmp t)=y→(a1.put (some 5) (.func (.func 234) #[] (#[Operand.tmp 2,.tmp 3].map a1.eval))).tmps.toList[t]? = some y:=fun t y h20 h5 hy=>by
      have h6:a1.tmps[t]? = some y:=by
       rw[Array.getElem?_eq_getElem (by omega)]
       rw[← hy]
       simp[Act.eval,Array.getD,show t<a1.tmps.size by omega]
      simp[Act.put,Ne.symm h5]
      simpa using h6
     rw[set_self (g 2 _ (by omega) (by omega) e2),set_self (g 3 _ (by omega) (by omega) e3)] at h2
     exact h2
    ·refine⟨?_,fun _=>by simp[yz_]⟩
     show _::a1.defers=_
     rw[hr1.dn.pan rfl]
     simp[df,e2,e3,hβ0,upd,yz_]
    ·simp only[hβ0,upd]
     split
     ·rfl
     ·split
      ·rfl
      ·exact hr1.fx k hk
   generalize ({ a1.put (some 5) (.func (.func 234) #[] (#[Operand.tmp 2,.tmp 3].map a1.eval)) with defers:={ target:=.fn (.func 234) (#[Operand.tmp 2,.tmp 3].map a1.eval),args := #[] }::a1.defers }:Act)=a2 at hr2 ⊢
   show Code.wp _ _ _ a2 w1
   clear hr1 e2 e3 hsz hr0 h1 h2
   refine wp_seq (wp_mono ((wpIn_wide (n:=1)).1 (WP.region ac_ (ds:=⟨[df (β0 1000) (β0 1001)],β0,none,false⟩) (pn:=an_) (Q:=fun e S=>e=.normal∧LeqL S.sl (Dz_ bs).sl∧oH_ S.bx (Dz_ bs).bx) ?_ w I _ I1 _ a2 w1 hr2)) ?_)
   ·simp -dsimp[yz_,Dz_]
    repeat refine aI ?_
   rintro e a3 w3 hh
   cases e with
   | normal =>
    obtain⟨S,I3,β3,⟨_,h1,h2⟩,hr⟩:=hh
    obtain⟨I3,β3,hr3⟩:=eb_ h1 (subB_ok h2) (hr.dn.2 rfl).symm _ _ _ _ _ _ _ _ hr
    clear hr h1 h2 hr2
    cases hp:pVal 16 bs with
    | none =>
     refine wp_seq (uv_ (c0:=.v (.int .i64 0)) (c1:=.v (.int .i64 0)) (c2:=.v (.string ⟨#[]⟩)) (c3:=.v (.slice none 0 0)) (c4:=.v (.int .i64 0)) (r:=bs) hr3 (fun ds γ=>?_) (fun w' I' v hm' hv=>?_) _)
     ·refine WP.region ac_ ?_
      simp -dsimp
      refine vcStop.call cU_ (m2_ (zA_ 16 (by omega) bs 0 (by omega) hbs) hp) (rl [(1000,8),(0,600)]) rfl rfl (by simp) (ag_ (by simp) rfl (by first|rfl|simp) (by simp) (by simp)) (fun _ h=>h) (fun _=>by simp) (fun _ _ _=>rfl) (by simp) ?_
      simp -dsimp
      refine kt_ 600 (by simp) ?_
      simp -dsimp
     ·refine hR w' I' v hm' ?_
      rw[m8_,pDec,hp]
      exact hv
    | some x =>
     obtain⟨v,r⟩:=x
     have h32:=m1_ (zA_ 16 (by omega) bs 0 (by omega) hbs) hp
     obtain⟨k,n,s,l⟩:=v
     refine wp_seq (wp_mono ((wpIn_wide (n:=1)).1 (WP.region ac_ (ds:=⟨[df (β0 1000) (β0 1001)],β0,none,false⟩) (pn:=an_) (Q:=fun e S=>e=.normal∧LeqL S.sl (Ai_ k n s l r).sl∧oH_ S.bx (Ai_ k n s l r).bx) ?_ w I _ I3 _ a3 w3 hr3)) ?_)
     ·simp -dsimp[Dz_,Ai_]
      refine vcStop.call cU_ (h32) (rl [(1000,8)]) rfl rfl (by simp[BoxLeq]) aGq (fun _ h=>h.elim) (fun ⟨_,h⟩=>h.elim) (fun ⟨_,h⟩=>h.elim) (by simp[BoxLeq]) ?_
      simp -dsimp[V.d,V.cells,Ai_]
      repeat refine aI ?_
     rintro e a4 w4 hh
     cases e with
     | normal =>
      obtain⟨S,I4,β4,⟨_,h1,h2⟩,hr⟩:=hh
      obtain⟨I4,β4,hr4⟩:=eb_ h1 (subB_ok h2) (hr.dn.2 rfl).symm _ _ _ _ _ _ _ _ hr
      clear hr h1 h2 hr3
      cases r with
      | nil =>
       have hdec:m8_ bs=.tup [(V.mk k n s l).d,.v (.int .i64 0)]:=by rw[m8_,pDec,hp]
       refine wp_mono ((wpIn_wide (n:=1)).1 ((?_:WP Tryz.prog ⟨[df (β0 1000) (β0 1001)],β0,none,false⟩ an_ _ (finQ ak_ (Tryz.f185).results.toList (.d (m8_ bs)) []) (Ai_ k n s l [])) w I _ I4 _ a4 w4 hr4)) ?_
       ·rw[hdec]
        simp only[Ai_]
        refine sG ?_
        refine vcStop.call aB_ (eQ_) (rl []) rfl rfl (by simp[BoxLeq]) aGq (fun _ h=>h.elim) (fun ⟨_,h⟩=>h.elim) (fun ⟨_,h⟩=>h.elim) (by simp[BoxLeq]) ?_
        simp -dsimp
        refine sG ?_
        refine WP.ret (ab_ ?_)
        simp -dsimp[V.d,V.cells]
       have fin:∀ a' w',(∃ S I' β',(∃ S',Wk S S'∧r6_ ak_ (Tryz.f185).results.toList (.d (m8_ bs)) [] S')∧Rel ⟨[df (β0 1000) (β0 1001)],β0,none,false⟩ w I (Fp [] β) S I' β' a' w') →
         Leaves Tryz.prog Tryz.f185 a'.tmps R a'.defers .returning w':=by
        rintro a' w' ⟨S,I1,β1,⟨S',hw,side,l,hl,hs,hle,hbo⟩,hr1⟩
        obtain⟨I',β',hr⟩:=hw _ _ _ _ _ _ _ _ hr1
        obtain⟨us,hus,hdu⟩:=dW_ ac_ hr _ hl hs
        rw[hr.dn.pan rfl]
        refine leaves_cons (f:=234) (args := #[β0 1000,β0 1001]) (fun h=>by cases h) (by simp[go_sem]) ((f31_ret _ _ w').mono ?_)
        rintro e u' w4 ⟨⟨v,rfl⟩,rfl,rfl⟩
        have hm6:Mem w I (Fp [] β) [] I' β w4:=(hr.mem.sub (bx':=[]) (by simp[getB])).relabel id (by simp[getB]) (by simp[getB])
        have h7:=hle _ _ _ _ hdu.one
        rw[DenA] at h7
        exact⟨_,cr_ _ a'.tmps _ _ us hus,hR _ I' _ hm6 h7⟩
       rintro e a5 w5 hh
       cases e with
       | normal=>exact fin _ _ hh
       | ret=>exact fin _ _ hh
       | panic ch=>exact hh.1.elim
       | outgrown=>exact hh.elim
       | exit id=>obtain⟨S,I',β',h,_⟩:=hh;exact h.elim
       | goto l=>obtain⟨S,I',β',h,_⟩:=hh;exact h.elim
      | cons c r =>
       refine wp_seq (uv_ (c0:=.v (.int .i64 k)) (c1:=.v (.int .i64 n)) (c2:=.v (.string s)) (c3:=slV l) (c4:=.v (.int .i64 0)) (r:=c::r) hr4 (fun ds γ=>?_) (fun w' I' v hm' hv=>?_) _)
       ·refine WP.region ac_ ?_
        simp -dsimp
        repeat refine aI ?_
        refine vcStop.call aB_ iW_ (rl [(0,600)]) rfl rfl (by simp[show ¬ ((r.length:Int)+1=0) by omega]) (ag_ (by simp) rfl (by first|rfl|simp) (by simp) (by simp)) (fun _ h=>h) (fun _=>by simp) (fun _ _ h=>by cases h) (by simp) ?_
        simp -dsimp
       ·refine hR w' I' v hm' ?_
        rw[m8_,pDec,hp]
        exact hv
     | panic ch=>exact hh.1.elim
     | outgrown=>exact hh.elim
     | ret=>obtain⟨S,I',β',⟨h,_⟩,_⟩:=hh;cases h
     | exit id=>obtain⟨S,I',β',⟨h,_⟩,_⟩:=hh;cases h
     | goto l=>obtain⟨S,I',β',⟨h,_⟩,_⟩:=hh;cases h
   | panic ch=>exact hh.1.elim
   | outgrown=>exact hh.elim
   | ret=>obtain⟨S,I',β',⟨h,_⟩,_⟩:=hh;cases h
   | exit id=>obtain⟨S,I',β',⟨h,_⟩,_⟩:=hh;cases h
   | goto l=>obtain⟨S,I',β',⟨h,_⟩,_⟩:=hh;cases h
  | panic ch=>exact hh.1.elim
  | outgrown=>exact hh.elim
  | ret=>obtain⟨S,I',β',⟨h,_⟩,_⟩:=hh;cases h
  | exit id=>obtain⟨S,I',β',⟨h,_⟩,_⟩:=hh;cases h
  | goto l=>obtain⟨S,I',β',⟨h,_⟩,_⟩:=hh;cases h
end Go.Proofs.YtfgcgagcpnbgmaaGreatDoor
namespace Go.Proofs.YtfgcgagcpnbgmaaGreatDoor
open Go.Xe Go.RowKit
@[simp] def rB (pre r:List UInt8) (bad:Bool):Box:=.cells 279 [.d (slB (pre++r)),.d (.v (.int .i64 pre.length)),.d (.v (.bool bad))]
theorem Ch_ (pre:List UInt8) (c:UInt8) (r:List UInt8):((bys pre++a8_ c::bys r).drop pre.length).take 1=[a8_ c]:=by
 rw[← kn_ pre,List.drop_left];rfl
theorem zu_ (pre:List UInt8):Fun Tryz.prog 254 [.ptr 1000 0] [(1000,rB pre [] false)] (.d (.v (.int .u8 0))) [(1000,rB pre [] true)] fun _=>False:=by
 refine ad_ (pn:=an_) ac_ Tryz.func254 rfl fun β0=>?_
 simp only[Tryz.f254]
 refine sG ?_
 refine cT (by simp) ?_
 refine sG ?_
 refine WP.ret (ab_ ?_)
 simp -dsimp
theorem zv_ (pre:List UInt8) (c:UInt8) (r:List UInt8) (h:pre.length≤1000000000000):Fun Tryz.prog 254 [.ptr 1000 0] [(1000,rB pre (c::r) false)] (.d (a8_ c)) [(1000,rB (pre++[c]) r false)] fun _=>False:=by
 refine ad_ (pn:=an_) ac_ Tryz.func254 rfl fun β0=>?_
 simp only[Tryz.f254]
 have e1:IntKind.i64.wrap ((pre.length:Int)+1)=(pre.length:Int)+1:=IntWalk.i64_in _ (by omega)
 have e2:IntKind.i64.wrap (pre.length:Int)=(pre.length:Int):=IntWalk.i64_in _ (by omega)
 refine sG ?_
 refine cF (by simp;omega) ?_
 refine WP.skip ?_
 simp -dsimp
 repeat(first|apply wG|(apply wR;simp -dsimp[e1,e2,Ch_])|refine aI ?_)
 refine WP.ret (ab_ ?_)
 simp -dsimp[e1,e2]
def rNum:Nat→Nat→List UInt8→Nat×List UInt8×Bool
 | _,_,[]=>(0,[],true)
 | i,u,c::r=>if (i=0∨c.toNat≠0)∧(i<9∨c.toNat≤1) then (if c.toNat<128 then (u+c.toNat%128*128^i,r,false) else rNum (i+1) (u+c.toNat%128*128^i) r) else (0,r,true)
theorem xc_ {i u:Nat} {c:UInt8} (hi:i≤9) (hu:u<128^i) (hc:i<9∨c.toNat≤1) :
  IntKind.u64.wrap ((u:Int)+IntKind.u64.wrap (IntKind.u64.wrap ((c.toNat:Int)%128)*2^shN .u64 (7*(i:Int))))=((u+c.toNat%128*128^i:Nat):Int):=by
 obtain⟨_,hb⟩:=fO_ hi hu hc
 have hm:c.toNat%128<128:=Nat.mod_lt _ (by omega)
 have hs:shN .u64 (7*(i:Int))=7*i:=by
  show min (7*(i:Int)).toNat 64=7*i
  omega
 have hw:IntKind.u64.wrap ((c.toNat:Int)%128)=((c.toNat%128:Nat):Int):=by
  rw[IntWalk.u64_in _ (by omega)];omega
 have e:(((c.toNat%128:Nat):Int)*2^(7*i))=((c.toNat%128*128^i:Nat):Int):=by rw[p7];push_cast;rfl
 have w1:IntKind.u64.wrap ((c.toNat%128*128^i:Nat):Int)=((c.toNat%128*128^i:Nat):Int):=IntWalk.u64_in _ (by omega)
 rw[hs,hw,e,w1,IntWalk.u64_in _ (by omega)]
 push_cast;rfl
attribute [local simp] lG_
theorem ni_ {i u:Nat} {c:UInt8} (hi:i≤9) (hu:u<128^i) (hc:i<9∨c.toNat≤1) :
  IntKind.u64.wrap ((u:Int)+IntKind.u64.wrap (IntKind.u64.wrap ((c.toNat:Int).tmod 128)*2^shN .u64 (7*(i:Int))))=(u:Int)+(c.toNat:Int)%128*128^i:=by
 have h:=xc_ hi hu hc
 rw[Int.tmod_eq_emod_of_nonneg (by omega),h]
 push_cast;rfl
def s49 (i u:Nat) (pre r:List UInt8):St:=mkS 43 [(0,.ptr 1000 0),(3,.d (.v (.int .u64 u))),(4,.d (.v (.int .i64 i)))] [(1000,rB pre r false)]
theorem BZ_ (pre r pre' r':List UInt8) (x:Nat) (bad:Bool) (h:rNum 0 0 r=(x,r',bad)) (hp:pre'++r'=pre++r) (hl:(pre++r).length≤1000000000000) :
  Fun Tryz.prog 255 [.ptr 1000 0] [(1000,rB pre r false)] (.d (.v (.int .u64 x))) [(1000,rB pre' r' bad)] fun _=>False:=by
 refine ad_ (pn:=an_) ac_ Tryz.func255 rfl fun β0=>?_
 simp only[Tryz.f255]
 refine sG ?_
 refine ai_ (fun m S=>∃ i u p1 r1,m=r1.length∧i≤9∧u<128^i∧rNum i u r1=(x,r',bad)∧pre'++r'=p1++r1∧(p1++r1).length≤1000000000000∧S=s49 i u p1 r1) r.length (S0:=s49 0 0 pre r) (af_ [] (by simp[s49]) (by simp[s49])) ⟨0,0,pre,r,rfl,by omega,by simp,h,hp,hl,rfl⟩ ?_
 rintro _ _ ⟨i,u,p1,r1,rfl,hi,hu,hr,hp,hl,rfl⟩
 simp -dsimp[s49]
 refine sG ?_
 refine cT (by simp) ?_
 refine WP.skip ?_
 simp -dsimp
 refine sG ?_
 cases r1 with
 | nil =>
  rw[rNum] at hr
  cases hr
  simp only[List.append_nil] at hp
  subst hp
  by_cases h0:i=0
  ·subst h0
   have hu0:u=0:=by simpa using hu
   subst hu0
   refine vcStop.call bS_ (zu_ pre') (rl []) rfl rfl (by simp[BoxLeq]) aGq (fun _ h=>h.elim) (fun ⟨_,h⟩=>h.elim) (fun ⟨_,h⟩=>h.elim) (by simp[BoxLeq]) ?_
   simp -dsimp
   refine sG ?_
   refine cF (by simp) ?_
   refine WP.skip ?_
   simp -dsimp
   refine sG ?_
   refine cT (by simp) ?_
   refine sG ?_
   refine WP.ret (ab_ ?_)
   simp -dsimp[show IntKind.u64.wrap (IntKind.u64.wrap (IntKind.u64.wrap 0*2^shN IntKind.u64 (IntKind.i64.wrap 0)))=0 by decide]
  ·have h1:0<i:=by omega
   refine vcStop.call bS_ (zu_ pre') (rl []) rfl rfl (by simp[BoxLeq]) aGq (fun _ h=>h.elim) (fun ⟨_,h⟩=>h.elim) (fun ⟨_,h⟩=>h.elim) (by simp[BoxLeq]) ?_
   simp -dsimp
   repeat(first|apply wG|(apply wR;simp -dsimp[h1])|refine aI ?_)
   refine cT (by simp) ?_
   refine sG ?_
   refine WP.ret (ab_ ?_)
   simp -dsimp
 | cons c r1 =>
  have hp1:p1.length≤1000000000000:=by simp at hl;omega
  rw[rNum] at hr
  have hnx:¬ c.toNat<128→(i<9∨c.toNat≤1)→i+1≤9:=by omega
  have hun:u+c.toNat%128*128^i<128^(i+1):=by
   have h1:c.toNat%128*128^i≤127*128^i:=Nat.mul_le_mul_right _ (by omega)
   rw[Nat.pow_succ];omega
  have e7:IntKind.i64.wrap (7*(i:Int))=7*(i:Int):=IntWalk.i64_in _ (by omega)
  have e8:IntKind.i64.wrap ((i:Int)+1)=(i:Int)+1:=IntWalk.i64_in _ (by omega)
  have hlt:decide ((c.toNat:Int)<128)=decide (c.toNat<128):=by simp[show ((c.toNat:Int)<128)↔c.toNat<128 by omega]
  by_cases h0:i=0
  ·subst h0
   have hst:IntKind.u64.wrap ((u:Int)+IntKind.u64.wrap (IntKind.u64.wrap ((c.toNat:Int).tmod 128)*2^shN .u64 (IntKind.i64.wrap 0)))=(u:Int)+(c.toNat:Int)%128:=by
    have h:=ni_ (c:=c) hi hu (by omega)
    simpa [show IntKind.i64.wrap 0=0 from rfl] using h
   have e81:IntKind.i64.wrap 1=1:=rfl
   refine vcStop.call bS_ (zv_ p1 c r1 hp1) (rl []) rfl rfl (by simp[BoxLeq]) aGq (fun _ h=>h.elim) (fun ⟨_,h⟩=>h.elim) (fun ⟨_,h⟩=>h.elim) (by simp[BoxLeq]) ?_
   simp -dsimp
   refine sG ?_
   refine cF (by simp) ?_
   refine WP.skip ?_
   simp -dsimp
   rw[if_pos (by omega)] at hr
   repeat(first|apply wG|(apply wR;simp -dsimp[e7,hst])|refine aI ?_)
   refine WP.cond (b:=decide (c.toNat<128)) (by simp[hlt]) (fun hb=>?_) (fun hb=>?_)
   ·have hb:=of_decide_eq_true hb
    rw[if_pos hb] at hr
    cases hr
    have hp2:pre'=p1++[c]:=List.append_cancel_right (bs:=r') (by rw[hp];simp)
    subst hp2
    refine sG ?_
    refine WP.ret (ab_ ?_)
    simp -dsimp
   ·have hb:=of_decide_eq_false hb
    rw[if_neg hb] at hr
    refine WP.skip ?_
    simp -dsimp
    refine sG ?_
    refine loopW.next (s49 (0+1) (u+c.toNat%128*128^0) (p1++[c]) r1) (af_ [] (by simp[s49,e8,hst,show IntKind.i64.wrap 1=1 from rfl]) (by simp[s49])) r1.length (by simp) ⟨0+1,_,p1++[c],r1,rfl,by omega,hun,hr,by rw[hp];simp,by simpa using hl,rfl⟩
  ·have h1:0<i:=by omega
   refine vcStop.call bS_ (zv_ p1 c r1 hp1) (rl []) rfl rfl (by simp[BoxLeq]) aGq (fun _ h=>h.elim) (fun ⟨_,h⟩=>h.elim) (fun ⟨_,h⟩=>h.elim) (by simp[BoxLeq]) ?_
   simp -dsimp
   repeat(first|apply wG|(apply wR;simp -dsimp[h1])|refine aI ?_)
   split at hr
   ·rename_i hc
    have hst:=ni_ hi hu hc.2
    refine cF (by simp;omega) ?_
    refine WP.skip ?_
    simp -dsimp
    repeat(first|apply wG|(apply wR;simp -dsimp[e7,hst])|refine aI ?_)
    refine WP.cond (b:=decide (c.toNat<128)) (by simp[hlt]) (fun hb=>?_) (fun hb=>?_)
    ·have hb:=of_decide_eq_true hb
     rw[if_pos hb] at hr
     cases hr
     have hp2:pre'=p1++[c]:=List.append_cancel_right (bs:=r') (by rw[hp];simp)
     subst hp2
     refine sG ?_
     refine WP.ret (ab_ ?_)
     simp -dsimp
    ·have hb:=of_decide_eq_false hb
     rw[if_neg hb] at hr
     refine WP.skip ?_
     simp -dsimp
     refine sG ?_
     refine loopW.next (s49 (i+1) (u+c.toNat%128*128^i) (p1++[c]) r1) (af_ [] (by simp[s49,e8,hst,show IntKind.i64.wrap 1=1 from rfl]) (by simp[s49])) r1.length (by simp) ⟨i+1,_,p1++[c],r1,rfl,by omega,hun,hr,by rw[hp];simp,by simpa using hl,rfl⟩
   ·rename_i hc
    cases hr
    refine cT (by simp;omega) ?_
    refine sG ?_
    have hp2:pre'=p1++[c]:=List.append_cancel_right (bs:=r') (by rw[hp];simp)
    subst hp2
    refine WP.ret (ab_ ?_)
    simp -dsimp
end Go.Proofs.YtfgcgagcpnbgmaaGreatDoor
namespace Go.Proofs.YtfgcgagcpnbgmaaGreatDoor
open Go.Xe Go.RowKit
attribute [local simp] lG_
def vz:V:=.mk 0 0 ⟨#[]⟩ []
def d0_ (p:List UInt8→V×List UInt8×Bool):Nat→List UInt8→List V×List UInt8×Bool
 | 0,r=>([],r,false)
 | n+1,r=>if (p r).2.2=true then ([(p r).1],(p r).2.1,true) else ((p r).1::(d0_ p n (p r).2.1).1,(d0_ p n (p r).2.1).2.1,(d0_ p n (p r).2.1).2.2)
def vZ_ (b:Nat) (p:List UInt8→V×List UInt8×Bool):List UInt8→V×List UInt8×Bool
 | []=>(vz,[],true)
 | c::r=>if c.toNat=1 then (.mk 1 (zag (rNum 0 0 r).1) ⟨#[]⟩ [],(rNum 0 0 r).2.1,(rNum 0 0 r).2.2)
   else if c.toNat=2 then (if (rNum 0 0 r).2.2=true∨(rNum 0 0 r).2.1.length<(rNum 0 0 r).1 then (vz,(rNum 0 0 r).2.1,true) else (.mk 2 0 ⟨((rNum 0 0 r).2.1.take (rNum 0 0 r).1).toArray⟩ [],(rNum 0 0 r).2.1.drop (rNum 0 0 r).1,false))
   else if c.toNat=3 then (if (rNum 0 0 r).2.2=true∨(rNum 0 0 r).2.1.length<(rNum 0 0 r).1∨b=0 then (vz,(rNum 0 0 r).2.1,true)
    else (.mk 3 0 ⟨#[]⟩ (d0_ p (rNum 0 0 r).1 (rNum 0 0 r).2.1).1,(d0_ p (rNum 0 0 r).1 (rNum 0 0 r).2.1).2.1,(d0_ p (rNum 0 0 r).1 (rNum 0 0 r).2.1).2.2))
   else (vz,r,true)
def rVal:Nat→List UInt8→V×List UInt8×Bool
 | 0=>vZ_ 0 fun r=>(vz,r,true)
 | b+1=>vZ_ (b+1) (rVal b)
theorem xA_:∀ (r:List UInt8) (i u:Nat),i≤9→u<128^i→isU (rNum i u r).1
 | [],_,_,_,_=>by rw[rNum];unfold isU;omega
 | c::r,i,u,hi,hu=>by
  rw[rNum]
  split
  ·rename_i hc
   obtain⟨_,hbd⟩:=fO_ hi hu hc.2
   split
   ·exact hbd
   ·have h1:c.toNat%128*128^i≤127*128^i:=Nat.mul_le_mul_right _ (by omega)
    exact xA_ r _ _ (by omega) (by rw[Nat.pow_succ];omega)
  ·unfold isU;simp only;omega
def isEnd (r' r:List UInt8):Prop:=∃ q,q++r'=r
theorem isEnd.refl (r:List UInt8):isEnd r r:=⟨[],rfl⟩
theorem isEnd.trans {a b c:List UInt8} (h:isEnd a b) (h':isEnd b c):isEnd a c:=by
 obtain⟨q,rfl⟩:=h
 obtain⟨q',rfl⟩:=h'
 exact⟨q'++q,by simp⟩
theorem isEnd.cons {a b:List UInt8} (c:UInt8) (h:isEnd a b):isEnd a (c::b):=by
 obtain⟨q,rfl⟩:=h
 exact⟨c::q,rfl⟩
theorem isEnd.drop (n:Nat) (r:List UInt8):isEnd (r.drop n) r:=⟨r.take n,List.take_append_drop n r⟩
theorem kV_:∀ (r:List UInt8) (i u:Nat),isEnd (rNum i u r).2.1 r
 | [],i,u=>by rw[rNum];exact .refl _
 | c::r,i,u=>by
  rw[rNum]
  split
  ·split
   ·exact .cons c (.refl _)
   ·exact .cons c (kV_ r _ _)
  ·exact .cons c (.refl _)
theorem mx_ {p:List UInt8→V×List UInt8×Bool} (hp:∀ r,isEnd (p r).2.1 r):∀ (n:Nat) (r:List UInt8),isEnd (d0_ p n r).2.1 r
 | 0,r=>.refl _
 | n+1,r=>by
  rw[d0_]
  split
  ·exact hp r
  ·exact (mx_ hp n _).trans (hp r)
theorem qp_ (b:Nat) {p:List UInt8→V×List UInt8×Bool} (hp:∀ r,isEnd (p r).2.1 r):∀ r,isEnd (vZ_ b p r).2.1 r
 | []=>.refl _
 | c::r=>by
  rw[vZ_]
  have h:=kV_ r 0 0
  split
  ·exact .cons c h
  split
  ·split
   ·exact .cons c h
   ·exact .cons c ((isEnd.drop _ _).trans h)
  split
  ·split
   ·exact .cons c h
   ·exact .cons c ((mx_ hp _ _).trans h)
  ·exact .cons c (.refl _)
theorem kU_:∀ (b:Nat) (r:List UInt8),isEnd (rVal b r).2.1 r
 | 0,r=>qp_ 0 (fun r=>.refl r) r
 | b+1,r=>qp_ (b+1) (kU_ b) r
theorem xB_:∀ (r:List UInt8) (i u:Nat),(∀ x r',ey_ i u r=some (x,r')→rNum i u r=(x,r',false))∧(ey_ i u r=none→(rNum i u r).2.2=true)
 | [],i,u=>⟨fun x r' h=>(by rw[ey_] at h;cases h),fun _=>rfl⟩
 | c::r,i,u=>by
  rw[ey_,rNum]
  split
  ·split
   ·exact⟨fun x r' h=>(by cases h;rfl),fun h=>by cases h⟩
   ·exact xB_ r _ _
  ·exact⟨fun x r' h=>(by cases h),fun _=>rfl⟩
theorem tw_ {p:List UInt8→Option (V×List UInt8)} {q:List UInt8→V×List UInt8×Bool} (h1:∀ r v r',p r=some (v,r')→q r=(v,r',false)) (h2:∀ r,p r=none→(q r).2.2=true) :
  ∀ (n:Nat) (r:List UInt8),(∀ l r',pMany p n r=some (l,r')→d0_ q n r=(l,r',false))∧(pMany p n r=none→(d0_ q n r).2.2=true)
 | 0,r=>⟨fun l r' h=>(by rw[pMany] at h;cases h;rfl),fun h=>by rw[pMany] at h;cases h⟩
 | n+1,r=>by
  rw[pMany,d0_]
  cases hp:p r with
  | none=>rw[if_pos (h2 r hp)];exact⟨fun l r' h=>(by cases h),fun _=>rfl⟩
  | some x =>
   obtain⟨v,r1⟩:=x
   have hq:=h1 r v r1 hp
   rw[hq]
   have ih:=tw_ h1 h2 n r1
   simp only[Bool.false_eq_true,if_false]
   cases hm:pMany p n r1 with
   | none=>exact⟨fun l r' h=>(by cases h),fun _=>ih.2 hm⟩
   | some y =>
    obtain⟨l,r2⟩:=y
    have:=ih.1 l r2 hm
    exact⟨fun l r' h=>(by cases h;rw[this]),fun h=>by cases h⟩
theorem tv_:∀ (b:Nat) (r:List UInt8),(∀ v r',pVal b r=some (v,r')→rVal b r=(v,r',false))∧(pVal b r=none→(rVal b r).2.2=true)
 | b,[]=>by cases b<;>exact⟨fun v r' h=>(by rw[pVal] at h;cases h),fun _=>rfl⟩
 | b,c::r=>by
  have hn:=xB_ r 0 0
  have hL:(∀ n r',gS_ r=some (n,r')→rNum 0 0 r=(n,r',false)∧n≤r'.length)∧(gS_ r=none→(rNum 0 0 r).2.2=true∨(rNum 0 0 r).2.1.length<(rNum 0 0 r).1):=by
   rw[gS_]
   cases hp:ey_ 0 0 r with
   | none=>exact⟨fun n r' h=>(by cases h),fun _=>.inl (hn.2 hp)⟩
   | some x =>
    obtain⟨u,r1⟩:=x
    have h1:=hn.1 u r1 hp
    simp only
    split
    ·rename_i hle;exact⟨fun n r' h=>by cases h;exact⟨h1,hle⟩,fun h=>by cases h⟩
    ·rename_i hle;exact⟨fun n r' h=>(by cases h),fun _=>.inr (by rw[h1];simp only;omega)⟩
  have hr:∃ q,rVal b=vZ_ b q∧∀ b',b=b'+1→q=rVal b':=by
   cases b with
   | zero=>exact⟨_,rfl,fun b' h=>by cases h⟩
   | succ b=>exact⟨_,rfl,fun b' h=>by cases h;rfl⟩
  obtain⟨q,hq,hq'⟩:=hr
  rw[hq,vZ_]
  by_cases h1:c.toNat=1
  ·rw[mD_ b r h1,if_pos h1]
   cases hp:ey_ 0 0 r with
   | none=>exact⟨fun v r' h=>(by cases h),fun _=>hn.2 hp⟩
   | some x =>
    obtain⟨u,r1⟩:=x
    rw[hn.1 u r1 hp]
    exact⟨fun v r' h=>(by cases h;rfl),fun h=>by cases h⟩
  rw[if_neg h1]
  by_cases h2:c.toNat=2
  ·rw[mC_ b r h2,if_pos h2]
   cases hp:gS_ r with
   | none=>rw[if_pos (hL.2 hp)];exact⟨fun v r' h=>(by cases h),fun _=>rfl⟩
   | some x =>
    obtain⟨n,r1⟩:=x
    obtain⟨h3,h4⟩:=hL.1 n r1 hp
    rw[h3,if_neg (by simp only[Bool.false_eq_true,false_or];omega)]
    exact⟨fun v r' h=>(by cases h;rfl),fun h=>by cases h⟩
  rw[if_neg h2]
  by_cases h3:c.toNat=3
  ·rw[if_pos h3]
   cases b with
   | zero =>
    rw[k1_ r h3,if_pos (.inr (.inr rfl))]
    exact⟨fun v r' h=>(by cases h),fun _=>rfl⟩
   | succ b =>
    rw[mB_ b r h3]
    have hqq:=hq' b rfl
    subst hqq
    cases hp:gS_ r with
    | none =>
     rw[if_pos (by rcases hL.2 hp with h|h;exact .inl h;exact .inr (.inl h))]
     exact⟨fun v r' h=>(by cases h),fun _=>rfl⟩
    | some x =>
     obtain⟨n,r1⟩:=x
     obtain⟨h4,h5⟩:=hL.1 n r1 hp
     have hm:=tw_ (fun r v r' h=>(tv_ b r).1 v r' h) (fun r h=>(tv_ b r).2 h) n r1
     rw[h4,if_neg (by simp only[Bool.false_eq_true,false_or];omega)]
     simp only[Option.bind_some]
     cases hy:pMany (pVal b) n r1 with
     | none=>exact⟨fun v r' h=>(by cases h),fun _=>hm.2 hy⟩
     | some y =>
      obtain⟨l,r2⟩:=y
      rw[hm.1 l r2 hy]
      exact⟨fun v r' h=>(by cases h;rfl),fun h=>by cases h⟩
  ·rw[if_neg h3,qq_ b r h1 h2 h3]
   exact⟨fun v r' h=>(by cases h),fun _=>rfl⟩
end Go.Proofs.YtfgcgagcpnbgmaaGreatDoor
namespace Go.Proofs.YtfgcgagcpnbgmaaGreatDoor
open Go.Xe Go.RowKit
attribute [local simp] lG_
def zz_ (b:Nat):Prop:=b≤16→∀ (pre r pre':List UInt8) (d:Int),d=16-b→(pre++r).length≤1000000000000→pre'++(rVal b r).2.1=pre++r →
  Fun Tryz.prog 205 [.ptr 1000 0,.d (.v (.int .i64 d))] [(1000,rB pre r false)] (.d (rVal b r).1.d) [(1000,rB pre' (rVal b r).2.1 (rVal b r).2.2)] fun _=>False
def s34 (d:Int) (n i:Nat) (l:List V) (pre r:List UInt8) (bad:Bool):St :=
 mkS 142 [(0,.ptr 1000 0),(1,.d (.v (.int .i64 d))),(4,.ptr 4 0),(7,.d (.v (.int .u64 n))),(8,.ptr 8 0),(9,.d (.v (.int .u64 i)))]
  [(1000,rB pre r bad),(4,.cells 166 [.d (.v (.int .i64 0)),.d (.v (.int .i64 0)),.d (.v (.string ⟨#[]⟩)),.d (.v (.slice none 0 0))]),(8,.cells 166 [.d (.v (.int .i64 3)),.d (.v (.int .i64 0)),.d (.v (.string ⟨#[]⟩)),.row 500]),(500,.row 166 4 l.length ((aq_ l).map .d))]
theorem vY_ (b:Nat):∃ q,rVal b=vZ_ b q∧∀ b',b=b'+1→q=rVal b':=by
 cases b with
 | zero=>exact⟨_,rfl,fun b' h=>by cases h⟩
 | succ b=>exact⟨_,rfl,fun b' h=>by cases h;rfl⟩
theorem xb_ (l:List UInt8):(∀ a∈bys l,a=.v (.int .u8 (unB (.d a)).toNat))↔True:=z8_ l
attribute [local simp] xb_
theorem w0_ (l:List UInt8) (n:Nat):(bys l).take n=bys (l.take n):=by rw[bys,bys,List.map_take]
theorem yf_ {u:Nat} (h:isU u) (ho:u%2=1):IntKind.i64.wrap (IntKind.i64.wrap (-IntKind.i64.wrap (IntKind.u64.wrap ((u:Int)/2)))-1)=zag u:=by
 unfold isU at h
 have e1:IntKind.u64.wrap ((u:Int)/2)=(u:Int)/2:=IntWalk.u64_in _ (by omega)
 have e2:IntKind.i64.wrap ((u:Int)/2)=(u:Int)/2:=IntWalk.i64_in _ (by omega)
 have e3:IntKind.i64.wrap (-((u:Int)/2))=-((u:Int)/2):=IntWalk.i64_in _ (by omega)
 rw[e1,e2,e3,IntWalk.i64_in _ (by omega),zag,if_neg (by omega)]
 omega
theorem vr_ {u:Nat} (h:isU u) (ho:u%2=0):IntKind.i64.wrap (IntKind.u64.wrap ((u:Int)/2))=zag u:=by
 unfold isU at h
 have e1:IntKind.u64.wrap ((u:Int)/2)=(u:Int)/2:=IntWalk.u64_in _ (by omega)
 rw[e1,IntWalk.i64_in _ (by omega),zag,if_pos ho]
 omega
set_option maxRecDepth 100000 in
theorem xY_ (b:Nat) (ih:∀ b',b=b'+1→zz_ b'):zz_ b:=by
 intro hb16 pre r pre' d hd hl hp
 obtain⟨q,hq,hq'⟩:=vY_ b
 rw[hq] at hp ⊢
 have hpre:pre.length≤1000000000000:=by simp at hl;omega
 refine ad_ (pn:=an_) ac_ Tryz.func205 rfl fun β0=>?_
 simp only[Tryz.f205]
 refine sG ?_
 cases r with
 | nil =>
  rw[vZ_] at hp ⊢
  simp only[List.append_nil] at hp
  subst hp
  refine vcStop.call bS_ (zu_ pre') (rl []) rfl rfl (by simp[BoxLeq]) aGq (fun _ h=>h.elim) (fun ⟨_,h⟩=>h.elim) (fun ⟨_,h⟩=>h.elim) (by simp[BoxLeq]) ?_
  simp -dsimp
  refine sG ?_
  refine cF (by simp) ?_
  refine sG ?_
  refine cF (by simp) ?_
  refine sG ?_
  refine cF (by simp) ?_
  refine WP.skip ?_
  simp -dsimp
  refine sG ?_
  refine WP.ret (ab_ ?_)
  simp -dsimp[vz,V.d,V.cells,aq_]
 | cons c r =>
  refine vcStop.call bS_ (zv_ pre c r hpre) (rl []) rfl rfl (by simp[BoxLeq]) aGq (fun _ h=>h.elim) (fun ⟨_,h⟩=>h.elim) (fun ⟨_,h⟩=>h.elim) (by simp[BoxLeq]) ?_
  simp -dsimp
  refine sG ?_
  have hc1:decide ((c.toNat:Int)=1)=decide (c.toNat=1):=by simp[show ((c.toNat:Int)=1)↔c.toNat=1 by omega]
  have hc2:decide ((c.toNat:Int)=2)=decide (c.toNat=2):=by simp[show ((c.toNat:Int)=2)↔c.toNat=2 by omega]
  have hc3:decide ((c.toNat:Int)=3)=decide (c.toNat=3):=by simp[show ((c.toNat:Int)=3)↔c.toNat=3 by omega]
  rw[vZ_] at hp ⊢
  obtain⟨q1,hq1⟩:=kV_ r 0 0
  have hq1':(pre++[c]++q1)++(rNum 0 0 r).2.1=(pre++[c])++r:=by rw[List.append_assoc,hq1]
  have hl1:((pre++[c])++r).length≤1000000000000:=by simpa using hl
  have h49:=BZ_ (pre++[c]) r (pre++[c]++q1) (rNum 0 0 r).2.1 (rNum 0 0 r).1 (rNum 0 0 r).2.2 rfl hq1' hl1
  obtain⟨P,hP⟩:∃ P,P=pre++[c]++q1:=⟨_,rfl⟩
  rw[← hP] at h49 hq1'
  have hlP:P.length+(rNum 0 0 r).2.1.length≤1000000000000:=by
   have:=congrArg List.length hq1'
   simp only[List.length_append] at this hl1
   omega
  have hdr:∀ l:List UInt8,(bys P++bys l).drop P.length=bys l:=fun l=>by rw[← kn_ P,List.drop_left]
  clear hP
  have hl2:q1.length+(rNum 0 0 r).2.1.length=r.length:=by rw[← List.length_append,hq1]
  have hu:=xA_ r 0 0 (by omega) (by simp)
  generalize rNum 0 0 r=R at *
  obtain⟨u,r1,bad⟩:=R
  simp only at *
  refine WP.cond (b:=decide (c.toNat=1)) (by simp[hc1]) (fun hb=>?_) (fun hb=>?_)
  ·have hb:=of_decide_eq_true hb
   rw[if_pos hb] at hp ⊢
   simp only at hp ⊢
   have hp2:pre'=P:=List.append_cancel_right (bs:=r1) (by rw[hp,hq1'];simp)
   subst hp2
   refine sG ?_
   refine vcStop.call ef_ (h49) (rl []) rfl rfl (by simp[BoxLeq]) aGq (fun _ h=>h.elim) (fun ⟨_,h⟩=>h.elim) (fun ⟨_,h⟩=>h.elim) (by simp[BoxLeq]) ?_
   simp -dsimp
   refine sG ?_
   have e1:decide ((u:Int).tmod 2=1)=decide (u%2=1):=by rw[Int.tmod_eq_emod_of_nonneg (by omega)];simp[show ((u:Int)%2=1)↔u%2=1 by omega]
   refine WP.cond (b:=decide (u%2=1)) (by simp[e1]) (fun hb=>?_) (fun hb=>?_)
   ·have hb:=of_decide_eq_true hb
    refine sG ?_
    refine WP.ret (ab_ ?_)
    simp -dsimp[yf_ hu hb,V.d,V.cells,aq_]
   ·have hb:=of_decide_eq_false hb
    refine WP.skip ?_
    simp -dsimp
    refine sG ?_
    refine WP.ret (ab_ ?_)
    simp -dsimp[vr_ hu (by omega),V.d,V.cells,aq_]
  have hb1:¬ c.toNat=1:=of_decide_eq_false hb
  rw[if_neg hb1] at hp ⊢
  have ex:IntKind.i64.wrap ((r1.length:Int))=(r1.length:Int):=IntWalk.i64_in _ (by omega)
  have ey:IntKind.u64.wrap ((r1.length:Int))=(r1.length:Int):=IntWalk.u64_in _ (by omega)
  have ep:IntKind.i64.wrap ((P.length:Int))=(P.length:Int):=IntWalk.i64_in _ (by omega)
  have eS:(P.length:Int)+(r1.length:Int)-(P.length:Int)=(r1.length:Int):=by omega
  have eu:decide ((r1.length:Int)<(u:Int))=decide (r1.length<u):=by simp
  refine sG ?_
  refine WP.cond (b:=decide (c.toNat=2)) (by simp[hc2]) (fun hb=>?_) (fun hb=>?_)
  ·have hb:=of_decide_eq_true hb
   rw[if_pos hb] at hp ⊢
   refine sG ?_
   refine vcStop.call ef_ (h49) (rl []) rfl rfl (by simp[BoxLeq]) aGq (fun _ h=>h.elim) (fun ⟨_,h⟩=>h.elim) (fun ⟨_,h⟩=>h.elim) (by simp[BoxLeq]) ?_
   simp -dsimp
   cases bad with
   | true =>
    rw[if_pos (.inl rfl)] at hp ⊢
    simp only at hp ⊢
    have hp2:pre'=P:=List.append_cancel_right (bs:=r1) (by rw[hp,hq1'];simp)
    subst hp2
    refine sG ?_
    refine cT (by simp) ?_
    refine sG ?_
    refine WP.ret (ab_ ?_)
    simp -dsimp[vz,V.d,V.cells,aq_]
   | false =>
    refine sG ?_
    refine WP.cond (b:=decide (r1.length<u)) (by simp[eS,ex,ey]) (fun hb=>?_) (fun hb=>?_)
    ·have hb:=of_decide_eq_true hb
     rw[if_pos (.inr hb)] at hp ⊢
     simp only at hp ⊢
     have hp2:pre'=P:=List.append_cancel_right (bs:=r1) (by rw[hp,hq1'];simp)
     subst hp2
     refine sG ?_
     refine WP.ret (ab_ ?_)
     simp -dsimp[vz,V.d,V.cells,aq_]
    ·have hb:=of_decide_eq_false hb
     rw[if_neg (by simp only[Bool.false_eq_true,false_or];exact hb)] at hp ⊢
     simp only at hp ⊢
     have e3:IntKind.i64.wrap (u:Int)=(u:Int):=IntWalk.i64_in _ (by omega)
     have e4:IntKind.i64.wrap ((P.length:Int)+(u:Int))=(P.length:Int)+(u:Int):=IntWalk.i64_in _ (by omega)
     have e5:((P.length:Int)+(u:Int)).toNat=P.length+u:=by omega
     have e6:min u r1.length=u:=by omega
     have hp2:pre'=P++r1.take u:=List.append_cancel_right (bs:=r1.drop u) (by rw[hp,List.append_assoc,List.take_append_drop,hq1'];simp)
     subst hp2
     refine WP.skip ?_
     simp -dsimp
     repeat(first|apply wG|(apply wR;simp -dsimp[e3,e4,e5,ep,hdr,w0_,e6])|refine aI ?_)
     refine WP.ret (ab_ ?_)
     simp -dsimp[vz,V.d,V.cells,aq_,e6]
  have hb2:¬ c.toNat=2:=of_decide_eq_false hb
  rw[if_neg hb2] at hp ⊢
  refine sG ?_
  refine WP.cond (b:=decide (c.toNat=3)) (by simp[hc3]) (fun hb=>?_) (fun hb=>?_)
  ·have hb:=of_decide_eq_true hb
   rw[if_pos hb] at hp ⊢
   refine sG ?_
   refine vcStop.call ef_ (h49) (rl []) rfl rfl (by simp[BoxLeq]) aGq (fun _ h=>h.elim) (fun ⟨_,h⟩=>h.elim) (fun ⟨_,h⟩=>h.elim) (by simp[BoxLeq]) ?_
   simp -dsimp
   cases bad with
   | true =>
    rw[if_pos (.inl rfl)] at hp ⊢
    simp only at hp ⊢
    have hp2:pre'=P:=List.append_cancel_right (bs:=r1) (by rw[hp,hq1'];simp)
    subst hp2
    refine sG ?_
    refine cT (by simp) ?_
    refine sG ?_
    refine WP.ret (ab_ ?_)
    simp -dsimp[vz,V.d,V.cells,aq_]
   | false =>
    refine sG ?_
    refine WP.cond (b:=decide (r1.length<u)||decide (d=16)) (by simp[eS,ex,ey]) (fun hb=>?_) (fun hb=>?_)
    ·simp only[Bool.or_eq_true,decide_eq_true_eq] at hb
     rw[if_pos (by rcases hb with h|h;exact .inr (.inl h);exact .inr (.inr (by omega)))] at hp ⊢
     simp only at hp ⊢
     have hp2:pre'=P:=List.append_cancel_right (bs:=r1) (by rw[hp,hq1'];simp)
     subst hp2
     refine sG ?_
     refine WP.ret (ab_ ?_)
     simp -dsimp[vz,V.d,V.cells,aq_]
    ·simp only[Bool.or_eq_false_iff,decide_eq_false_iff_not] at hb
     obtain⟨b',rfl⟩:∃ b',b=b'+1:=⟨b-1,by omega⟩
     have hqq:=hq' b' rfl
     subst hqq
     have hC:=ih b' rfl
     rw[if_neg (by simp only[Bool.false_eq_true,false_or];omega)] at hp ⊢
     simp only at hp ⊢
     generalize hy:d0_ (rVal b') u r1=y at hp ⊢
     have hle:u≤r1.length:=by omega
     have hd1:IntKind.i64.wrap (d+1)=d+1:=IntWalk.i64_in _ (by omega)
     refine WP.skip ?_
     simp -dsimp
     refine sG ?_
     refine ai_ (fun m S=>∃ l p1 r2 bd k,l.length+k=u∧p1++r2=pre++c::r∧(p1++r2).length≤1000000000000∧((bd=true∧m=0∧y=(l,r2,true))∨(bd=false∧m=k+1∧y=(l++(d0_ (rVal b') k r2).1,(d0_ (rVal b') k r2).2.1,(d0_ (rVal b') k r2).2.2)))∧S=s34 d u l.length l p1 r2 bd) (u+1) (S0:=s34 d u 0 [] P r1 false)
      ((bf_ 8 3 500 166 4 (by simp;exact⟨rfl,rfl⟩) rfl (by simp)).trans (af_ [] (by simp[s34]) (by simp[s34,aq_]))) ⟨[],P,r1,false,u,by simp,by rw[hq1'];simp,by simp;omega,.inr ⟨rfl,rfl,by rw[hy];simp⟩,rfl⟩ ?_
     rintro m _ ⟨l,p1,r2,bd,k,h1,h2,h2',h3,rfl⟩
     simp -dsimp[s34]
     refine sG ?_
     have hll:l.length≤1000000000000:=by omega
     rcases h3 with⟨rfl,rfl,hy⟩|⟨rfl,rfl,hy⟩
     ·refine cF (by simp) ?_
      refine WP.exit ?_
      simp -dsimp
      refine sG ?_
      have hp2:pre'=p1:=List.append_cancel_right (bs:=r2) (by rw[← h2] at hp;simpa [hy] using hp)
      subst hp2
      refine WP.ret (aj_ (Wk.freeze (k:=500) (T:=166) (sz:=4) (ds:=aq_ l) (by simp;rfl)) ?_)
      simp[hy,V.d,V.cells]
     cases k with
     | zero =>
      rw[d0_] at hy
      simp only[List.append_nil] at hy
      refine cF (by simp;omega) ?_
      refine WP.exit ?_
      simp -dsimp
      refine sG ?_
      have hp2:pre'=p1:=List.append_cancel_right (bs:=r2) (by rw[← h2] at hp;simpa [hy] using hp)
      subst hp2
      refine WP.ret (aj_ (Wk.freeze (k:=500) (T:=166) (sz:=4) (ds:=aq_ l) (by simp;rfl)) ?_)
      simp[hy,V.d,V.cells]
     | succ k =>
      refine cT (by simp;omega) ?_
      refine WP.skip ?_
      simp -dsimp
      have e1:IntKind.u64.wrap ((l.length:Int)+1)=(l.length:Int)+1:=IntWalk.u64_in _ (by omega)
      refine WP.seq (WP.block ?_)
      refine i5_ ac_ dg_ ?_
      simp -dsimp[hd1]
      obtain⟨q2,hq2⟩:=kU_ b' r2
      have h34:=hC (by omega) p1 r2 (p1++q2) (d+1) (by omega) h2' (by rw[List.append_assoc,hq2])
      rw[d0_] at hy
      have h5:(p1++q2)++(rVal b' r2).2.1=pre++c::r:=by rw[List.append_assoc,hq2,h2]
      generalize rVal b' r2=R at *
      obtain⟨⟨k2,n2,s2,l2⟩,r3,bd3⟩:=R
      simp only at *
      refine vcStop.call hd_ (h34) (rl []) rfl rfl (by simp[BoxLeq]) aGq (fun _ h=>h.elim) (fun ⟨_,h⟩=>h.elim) (fun ⟨_,h⟩=>h.elim) (by simp[BoxLeq]) ?_
      simp -dsimp[V.d,V.cells]
      refine sG ?_
      refine loopW.next (s34 d u (l++[V.mk k2 n2 s2 l2]).length (l++[V.mk k2 n2 s2 l2]) (p1++q2) r3 bd3) (Wk.go [134] 135 500 (by decide) (by simp[s34]) (by simp[s34,e1]) (by simp[s34,bC_,aq_,V.cells])) (if bd3=true then 0 else k+1) (by split<;>omega)
       ⟨l++[V.mk k2 n2 s2 l2],p1++q2,r3,bd3,k,by simp;omega,h5,by rw[h5,← h2];exact h2',?_,rfl⟩
      cases bd3 with
      | true=>exact .inl ⟨rfl,rfl,by simpa using hy⟩
      | false=>exact .inr ⟨rfl,rfl,by simpa using hy⟩
  ·have hb3:¬ c.toNat=3:=of_decide_eq_false hb
   rw[if_neg hb3] at hp ⊢
   simp only at hp ⊢
   have hp2:pre'=pre++[c]:=List.append_cancel_right (bs:=r) (by rw[hp];simp)
   subst hp2
   refine WP.skip ?_
   simp -dsimp
   refine sG ?_
   refine WP.ret (ab_ ?_)
   simp -dsimp[vz,V.d,V.cells,aq_]
theorem B3_:∀ b,zz_ b
 | 0=>xY_ 0 fun b' h=>by omega
 | b+1=>xY_ (b+1) fun b' h=>(Nat.succ.inj h)▸B3_ b
end Go.Proofs.YtfgcgagcpnbgmaaGreatDoor
namespace Go.Proofs.YtfgcgagcpnbgmaaGreatDoor
open Go.Xe Go.RowKit
theorem p9:(128:Nat)^9=9223372036854775808:=by decide
theorem qX_:∀ (N m:Nat),m≤N→∀ (i u:Nat) (r:List UInt8),i≤9→u+m*128^i<18446744073709551616→(i=0∨0<m)→ey_ i u (digs m++r)=some (u+m*128^i,r):=by
 intro N
 induction N with
 | zero =>
  intro m hm i u r hi hb h0
  have:m=0:=by omega
  subst this
  rw[digs,if_pos (by omega),List.singleton_append,ey_]
  have:i=0:=by omega
  subst this
  simp
 | succ N ih =>
  intro m hm i u r hi hb h0
  rw[digs]
  split
  ·rename_i hlt
   have e:(UInt8.ofNat m).toNat=m:=by simp;omega
   have h9:i<9∨m≤1:=by
    rcases Nat.lt_or_ge i 9 with h|h
    ·exact .inl h
    ·have:i=9:=by omega
     subst this
     rw[p9] at hb
     exact .inr (by omega)
   rw[List.singleton_append,ey_,e,if_pos ⟨by omega,h9⟩,if_pos hlt,Nat.mod_eq_of_lt hlt]
  ·rename_i hge
   have e:(UInt8.ofNat (m%128+128)).toNat=m%128+128:=by simp;omega
   have h9:i<9:=by
    rcases Nat.lt_or_ge i 9 with h|h
    ·exact h
    ·have:i=9:=by omega
     subst this
     rw[p9] at hb
     omega
   have hs:u+m%128*128^i+m/128*128^(i+1)=u+m*128^i:=by
    have:m*128^i=(128*(m/128)+m%128)*128^i:=by rw[Nat.div_add_mod]
    rw[this,Nat.pow_succ,Nat.add_mul]
    have:m/128*(128^i*128)=128*(m/128)*128^i:=by rw[Nat.mul_comm (128^i) 128,← Nat.mul_assoc,Nat.mul_comm (m/128) 128]
    omega
   have hc:(m%128+128)%128=m%128:=by omega
   rw[List.cons_append,ey_,e,if_pos ⟨by omega,.inl h9⟩,if_neg (by omega),hc,ih (m/128) (by omega) (i+1) _ r (by omega) (by rw[hs];exact hb) (by omega),hs]
theorem lz_:∀ (bs:List UInt8) (i u x:Nat) (r:List UInt8),ey_ i u bs=some (x,r)→∃ m,bs=digs m++r∧x=u+m*128^i∧(0<i→0<m)
 | [],_,_,_,_,h=>by rw[ey_] at h;cases h
 | c::bs,i,u,x,r,h=>by
  rw[ey_] at h
  split at h
  ·rename_i hc
   split at h
   ·rename_i hlt
    cases h
    refine⟨c.toNat,?_,by rw[Nat.mod_eq_of_lt hlt],fun h=>by omega⟩
    rw[digs,if_pos hlt]
    simp
   ·rename_i hge
    obtain⟨m,rfl,rfl,hm⟩:=lz_ bs _ _ _ _ h
    have hlt:=c.toNat_lt
    refine⟨c.toNat%128+128*m,?_,?_,fun _=>by omega⟩
    ·have h1:¬ c.toNat%128+128*m<128:=by have:=hm (by omega);omega
     have h2:(c.toNat%128+128*m)%128+128=c.toNat:=by omega
     have h3:(c.toNat%128+128*m)/128=m:=by omega
     rw[digs.eq_1 (c.toNat%128+128*m),if_neg h1,h2,h3]
     simp
    ·rw[Nat.pow_succ,Nat.add_mul]
     have:m*(128^i*128)=128*m*128^i:=by rw[Nat.mul_comm (128^i) 128,← Nat.mul_assoc,Nat.mul_comm m 128]
     omega
  ·cases h
theorem mE_ {n:Nat} {r:List UInt8} (h:isU n) (hl:n≤r.length):gS_ (digs n++r)=some (n,r):=by
 rw[gS_,qX_ n n (Nat.le_refl _) 0 0 r (by omega) (by unfold isU at h;omega) (.inl rfl)]
 simp[hl]
theorem m6_ {bs:List UInt8} {n:Nat} {r:List UInt8} (h:gS_ bs=some (n,r)):bs=digs n++r:=by
 rw[gS_] at h
 split at h
 ·rename_i u r1 hp
  split at h
  ·cases h
   obtain⟨m,h1,h2,_⟩:=lz_ bs 0 0 _ _ hp
   have:m=n:=by omega
   subst this
   exact h1
  ·cases h
 ·cases h
theorem vf_ (v:V):0<v.enc.length:=by
 obtain⟨k,n,s,l⟩:=v
 rw[V.enc]
 split
 ·simp
 ·split<;>simp
theorem gJ_:∀ l:List V,l.length≤(ax_ l).length
 | []=>Nat.le_refl _
 | v::l=>by
  have:=vf_ v
  have:=gJ_ l
  rw[ax_];simp;omega
theorem vM_ (s:ByteArray):(⟨s.data.toList.toArray⟩:ByteArray)=s:=by cases s;simp
mutual
theorem x9_:∀ (v:V) (b:Nat) (r:List UInt8),v.ok=true→v.rng=true→v.dep≤b→v.enc.length≤1000000000000→pVal b (v.enc++r)=some (v,r)
 | .mk k n s l,b,r,hok,hr,hd,hl=>by
  have hI:=(cn_ hr).1
  rw[V.ok] at hok
  rw[V.enc] at hl ⊢
  by_cases h1:k=1
  ·subst h1
   simp only[if_true,Bool.and_eq_true,decide_eq_true_eq] at hok hl ⊢
   obtain⟨rfl,hl0⟩:=hok
   have:=List.eq_nil_of_length_eq_zero hl0
   subst this
   rw[List.cons_append,mD_ b _ (by rfl),qX_ _ _ (Nat.le_refl _) 0 0 r (by omega) (by have:=lW_ hI;unfold isU at this;omega) (.inl rfl)]
   simp[ye_]
  rw[if_neg h1] at hok hl ⊢
  by_cases h2:k=2
  ·subst h2
   simp only[if_true,Bool.and_eq_true,decide_eq_true_eq] at hok hl ⊢
   obtain⟨rfl,hl0⟩:=hok
   have:=List.eq_nil_of_length_eq_zero hl0
   subst this
   have hs:s.data.toList.length=s.size:=rfl
   simp only[List.length_cons,List.length_append] at hl
   rw[List.cons_append,mC_ b _ (by rfl),List.append_assoc,mE_ (by unfold isU;omega) (by simp[hs])]
   simp only[Option.map_some,Option.some.injEq,Prod.mk.injEq]
   rw[← hs,List.take_left,List.drop_left,vM_]
   exact⟨rfl,rfl⟩
  rw[if_neg h2] at hok hl ⊢
  by_cases h3:k=3
  ·subst h3
   simp only[if_true,Bool.and_eq_true,decide_eq_true_eq] at hok
   obtain⟨⟨rfl,rfl⟩,hokl⟩:=hok
   rw[V.dep,if_pos rfl] at hd
   obtain⟨b',rfl⟩:∃ b',b=b'+1:=⟨b-1,by omega⟩
   simp only[List.length_cons,List.length_append] at hl
   have hll:=gJ_ l
   rw[List.cons_append,mB_ b' _ (by rfl),List.append_assoc,mE_ (by unfold isU;omega) (by simp;omega)]
   simp only[Option.bind_some]
   rw[ve_ l b' r hokl (cn_ hr).2 (by omega) (by omega)]
   rfl
  ·rw[if_neg h3] at hok
   cases hok
theorem ve_:∀ (l:List V) (b:Nat) (r:List UInt8),co_ l=true→bm_ l=true→aX_ l≤b→(ax_ l).length≤1000000000000→pMany (pVal b) l.length (ax_ l++r)=some (l,r)
 | [],b,r,_,_,_,_=>rfl
 | v::l,b,r,hok,hr,hd,hl=>by
  rw[co_,Bool.and_eq_true] at hok
  rw[bm_,Bool.and_eq_true] at hr
  rw[aX_] at hd
  rw[ax_,List.length_append] at hl
  rw[ax_,List.length_cons,pMany,List.append_assoc,x9_ v b _ hok.1 hr.1 (by omega) (by omega)]
  simp only
  rw[ve_ l b r hok.2 hr.2 (by omega) (by omega)]
end
def Wr (b:Nat) (bs:List UInt8) (v:V) (r:List UInt8):Prop:=bs=v.enc++r∧v.ok=true∧v.dep≤b∧v.rng=true
theorem Wr.many {b:Nat} (h:∀ bs v r,bs.length≤1000000000000→pVal b bs=some (v,r)→Wr b bs v r):∀ (n:Nat) (bs:List UInt8) (l:List V) (r:List UInt8),bs.length≤1000000000000→pMany (pVal b) n bs=some (l,r) →
  bs=ax_ l++r∧co_ l=true∧aX_ l≤b∧bm_ l=true∧l.length=n
 | 0,bs,l,r,_,hp=>by rw[pMany] at hp;cases hp;simp[ax_,co_,aX_,bm_]
 | n+1,bs,l,r,hb,hp=>by
  rw[pMany] at hp
  split at hp
  ·cases hp
  ·rename_i v r1 h1
   split at hp
   ·cases hp
   ·rename_i l2 r2 h2
    cases hp
    obtain⟨rfl,e2,e3,e4⟩:=h bs v r1 hb h1
    obtain⟨rfl,f2,f3,f4,f5⟩:=Wr.many h n r1 l2 r (by simp at hb;omega) h2
    refine⟨by simp[ax_],by simp[co_,e2,f2],by rw[aX_];omega,by simp[bm_,e4,f4],by simp[f5]⟩
theorem ed_ {c:UInt8} {n:Nat} (h:c.toNat=n) (hn:n<256):c=UInt8.ofNat n:=by subst h;simp
theorem pt_:∀ (b:Nat) (bs:List UInt8) (v:V) (r:List UInt8),bs.length≤1000000000000→pVal b bs=some (v,r)→Wr b bs v r
 | b,[],v,r,_,hp=>by cases b<;>(rw[pVal] at hp;cases hp)
 | b,c::bs,v,r,hb,hp=>by
  have hb1:bs.length≤1000000000000:=by simp at hb;omega
  by_cases h1:c.toNat=1
  ·rw[mD_ b bs h1] at hp
   cases hx:ey_ 0 0 bs with
   | none=>rw[hx] at hp;cases hp
   | some x =>
    obtain⟨u,r1⟩:=x
    rw[hx] at hp
    cases hp
    have hu:=tH_ bs 0 0 hx (by omega) (by simp)
    obtain⟨m,rfl,hm,_⟩:=lz_ bs 0 0 _ _ hx
    have:m=u:=by omega
    subst this
    have hz:=AA_ hu
    unfold isI at hz
    refine⟨?_,by simp[V.ok],by simp[V.dep],?_⟩
    ·rw[V.enc,if_pos rfl,yc_,ed_ h1 (by omega)];rfl
    ·simp[V.rng,bm_,hz,show (⟨#[]⟩:ByteArray).size=0 from rfl]
  by_cases h2:c.toNat=2
  ·rw[mC_ b bs h2] at hp
   cases hx:gS_ bs with
   | none=>rw[hx] at hp;cases hp
   | some x =>
    obtain⟨n,r1⟩:=x
    rw[hx] at hp
    cases hp
    have hle:=gp_ hx
    have hd:=m6_ hx
    have hs:(⟨(r1.take n).toArray⟩:ByteArray).size=n:=by show (r1.take n).toArray.size=n;simp;omega
    refine⟨?_,by simp[V.ok],by simp[V.dep],?_⟩
    ·rw[V.enc,if_neg (by omega),if_pos rfl,hs,hd,ed_ h2 (by omega)]
     simp
    ·simp only[V.rng,bm_,hs,Bool.and_true,Bool.and_eq_true,decide_eq_true_eq]
     omega
  by_cases h3:c.toNat=3
  ·cases b with
   | zero=>rw[k1_ bs h3] at hp;cases hp
   | succ b =>
    rw[mB_ b bs h3] at hp
    cases hx:gS_ bs with
    | none=>rw[hx] at hp;cases hp
    | some x =>
     obtain⟨n,r1⟩:=x
     rw[hx,Option.bind_some] at hp
     cases hy:pMany (pVal b) n r1 with
     | none=>simp only[hy] at hp;cases hp
     | some y =>
      obtain⟨l,r2⟩:=y
      simp only[hy] at hp
      cases hp
      have hle:=gp_ hx
      have hd:=m6_ hx
      obtain⟨rfl,f2,f3,f4,rfl⟩:=Wr.many (fun bs v r=>pt_ b bs v r) n r1 l r2 (by omega) hy
      refine⟨?_,by simp[V.ok,f2],by rw[V.dep,if_pos rfl];exact Nat.succ_le_succ f3,?_⟩
      ·rw[V.enc,if_neg (by omega),if_neg (by omega),hd,ed_ h3 (by omega)]
       simp
      ·simp only[V.rng,f4,Bool.and_true,Bool.and_eq_true,decide_eq_true_eq]
       refine⟨⟨by omega,?_⟩,by omega⟩
       show (#[]:Array UInt8).size≤_
       simp
  ·rw[qq_ b bs h1 h2 h3] at hp;cases hp
end Go.Proofs.YtfgcgagcpnbgmaaGreatDoor
namespace Go.Proofs.YtfgcgagcpnbgmaaGreatDoor
open Go.Xe Go.RowKit
theorem B8_ (bs:List UInt8) (hbs:bs.length≤1000000000):Fn0 Tryz.prog 157 [slB bs] (m8_ bs):=by
 have hp:=tv_ 16 bs
 obtain⟨P,hP⟩:=kU_ 16 bs
 have h34:=B3_ 16 (by omega) [] bs P 0 (by omega) (by simp;omega) (by simpa using hP)
 have hl:P.length+(rVal 16 bs).2.1.length=bs.length:=by rw[← List.length_append,hP]
 refine ad_ (pn:=an_) ac_ Tryz.func157 rfl fun β0=>?_
 simp only[Tryz.f157]
 refine sG ?_
 generalize rVal 16 bs=R at *
 obtain⟨⟨k,n,s,l⟩,r,bad⟩:=R
 simp only at *
 refine vcStop.call hd_ (h34) (rl [(1000,8)]) rfl rfl (by simp[BoxLeq]) aGq (fun _ h=>h.elim) (fun ⟨_,h⟩=>h.elim) (fun ⟨_,h⟩=>h.elim) (by simp[BoxLeq]) ?_
 simp -dsimp[V.d,V.cells]
 cases hv:pVal 16 bs with
 | none =>
  have hb:=hp.2 hv
  subst hb
  have hd:m8_ bs=.tup [(V.mk 0 0 ⟨#[]⟩ []).d,.v (.int .i64 20)]:=by rw[m8_,pDec,hv]
  rw[hd]
  refine sG ?_
  refine vcStopG.skip (.d (.v (.int .i64 0))) ?_
  simp -dsimp
  refine vcStopG.skip (.d (slB [])) ?_
  simp -dsimp
  repeat refine aI ?_
  refine cT (by simp) ?_
  refine sG ?_
  refine WP.ret (ab_ ?_)
  simp -dsimp[V.d,V.cells,aq_]
 | some x =>
  obtain⟨v,r'⟩:=x
  have hw:=pt_ 16 bs v r' (by omega) hv
  have hb:=hp.1 v r' hv
  simp only[Prod.mk.injEq] at hb
  obtain⟨rfl,rfl,rfl⟩:=hb
  obtain⟨w1,w2,w3,w4⟩:=hw
  have hsz:P.length+r.length=bs.length:=hl
  have e0:((P.length:Int)=(bs.length:Int))=(r.length=0):=by rw[eq_iff_iff];omega
  cases r with
  | cons c r =>
   have hd:m8_ bs=.tup [(V.mk 0 0 ⟨#[]⟩ []).d,.v (.int .i64 20)]:=by rw[m8_,pDec,hv]
   rw[hd]
   have e1:¬ (P.length:Int)=(bs.length:Int):=by simp at hsz;omega
   have e2:¬ P.length=bs.length:=by simp at hsz;omega
   repeat(first|apply wG|(apply wR;simp -dsimp[e1,e2,hP])|refine aI ?_)
   refine vcStopG.skip (.d (.v (.int .i64 0))) ?_
   simp -dsimp
   refine vcStopG.skip (.d (slB [])) ?_
   simp -dsimp
   repeat refine aI ?_
   refine cT (by simp) ?_
   refine sG ?_
   refine WP.ret (ab_ ?_)
   simp -dsimp[V.d,V.cells,aq_]
  | nil =>
   have hd:m8_ bs=.tup [(V.mk k n s l).d,.v (.int .i64 0)]:=by rw[m8_,pDec,hv]
   rw[hd]
   simp only[List.append_nil] at hP w1
   subst hP
   have hck:V.chk (.mk k n s l)=0:=by rw[V.chk,if_pos w2,if_neg (by omega)]
   have h17:=x1_ (.mk k n s l) (by omega)
   have h27:=x0_ (.mk k n s l) w4 (by rw[← w1];exact hbs)
   rw[hck] at h17
   rw[← w1] at h27
   refine sG ?_
   refine ae_ hk_ (fun _=>h17) rfl (fun _=>rfl) (fun _=>by simp[V.d,V.cells]) ?_
   simp -dsimp
   refine ae_ ej_ (fun _=>h27) rfl (fun _=>rfl) (fun _=>by simp[V.d,V.cells]) ?_
   simp -dsimp
   repeat refine aI ?_
   refine cF (by simp) ?_
   refine WP.skip ?_
   simp -dsimp
   refine sG ?_
   refine WP.ret (ab_ ?_)
   simp -dsimp[V.d,V.cells]
end Go.Proofs.YtfgcgagcpnbgmaaGreatDoor
