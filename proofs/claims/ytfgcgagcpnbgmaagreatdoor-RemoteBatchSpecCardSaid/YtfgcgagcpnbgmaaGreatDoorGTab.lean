/-
  The types of the seat, for the engine. Printed by seatgen.py.
-/
import Derived.Test.YtfgcgagcpnbgmaaGreatDoorRows
import Derived.Test.YtfgcgagcpnbgmaaGreatDoorG3
set_option linter.all false
namespace Go.Proofs.YtfgcgagcpnbgmaaGreatDoor
open Go.Xe
def iZ:Value:=.int .i64 0
@[simp] theorem iZe:iZ=.int .i64 0:=rfl
def uZ:Value:=.int .u8 0
@[simp] theorem uZe:uZ=.int .u8 0:=rfl
def bZ:Value:=.bool false
@[simp] theorem bZe:bZ=.bool false:=rfl
def nZ:Value:=.slice none 0 0
@[simp] theorem nZe:nZ=.slice none 0 0:=rfl
def sZ:Value:=.string { data := #[] }
@[simp] theorem sZe:sZ=.string { data := #[] }:=rfl
def wZ:Value:=.int .u32 0
@[simp] theorem wZe:wZ=.int .u32 0:=rfl
abbrev tF:Option TE:=some ⟨.func,1,8,[.nilFunc]⟩
def i8_:List (Option TE):=[
 none,
 tF,
 some ⟨.int .i64,1,8,[iZ]⟩,
 some ⟨.int .i64,1,8,[iZ]⟩,
 some ⟨.bool,1,1,[bZ]⟩,
 some ⟨.int .u8,1,1,[uZ]⟩,
 some ⟨.int .u8,1,1,[uZ]⟩,
 none,
 some ⟨.struct [(0,2),(1,3),(2,4),(3,6)],4,24,[iZ,iZ,bZ,uZ]⟩,
 some ⟨.string,1,16,[sZ]⟩,
 some ⟨.string,1,16,[sZ]⟩,
 none,
 none,
 none,
 none,
 none,
 some ⟨.ptr 352,1,8,[.pointer none]⟩,
 none,
 none,
 none,
 some ⟨.iface,1,16,[.nilIface]⟩,
 none,
 some ⟨.slice 5,1,24,[nZ]⟩,
 none,
 some ⟨.struct [(0,22),(1,3),(2,3)],3,40,[nZ,iZ,iZ]⟩,
 some ⟨.slice 22,1,24,[nZ]⟩,
 some ⟨.slice 147,1,24,[nZ]⟩,
 none,
 some ⟨.struct [(0,25),(1,26),(2,3),(3,4)],4,64,[nZ,nZ,iZ,bZ]⟩,
 none,
 some ⟨.struct [(0,3),(1,25),(2,3)],3,40,[iZ,nZ,iZ]⟩,
 some ⟨.slice 82,1,24,[nZ]⟩,
 some ⟨.struct [(0,3),(1,24),(4,28),(8,30),(11,31),(12,3)],13,184,[iZ,nZ,iZ,iZ,nZ,nZ,iZ,bZ,iZ,nZ,iZ,nZ,iZ]⟩,
 some ⟨.struct [(0,3),(1,24),(4,28),(8,30),(11,31),(12,3)],13,184,[iZ,nZ,iZ,iZ,nZ,nZ,iZ,bZ,iZ,nZ,iZ,nZ,iZ]⟩,
 tF,
 none,
 some ⟨.int .i64,1,8,[iZ]⟩,
 none,
 none,
 none,
 none,
 none,
 some ⟨.struct [(0,3),(1,3),(2,3),(3,3),(4,3),(5,3),(6,3),(7,3)],8,64,[iZ,iZ,iZ,iZ,iZ,iZ,iZ,iZ]⟩,
 some ⟨.struct [(0,3),(1,3),(2,3),(3,3),(4,3),(5,3),(6,3),(7,3)],8,64,[iZ,iZ,iZ,iZ,iZ,iZ,iZ,iZ]⟩,
 none,
 some ⟨.struct [(0,3),(1,3),(2,3),(3,3)],4,32,[iZ,iZ,iZ,iZ]⟩,
 none,
 some ⟨.struct [(0,3),(1,3),(2,3),(3,3),(4,3)],5,40,[iZ,iZ,iZ,iZ,iZ]⟩,
 none,
 some ⟨.struct [(0,3),(1,3),(2,3),(3,3),(4,3),(5,3),(6,3),(7,3)],8,64,[iZ,iZ,iZ,iZ,iZ,iZ,iZ,iZ]⟩,
 none,
 some ⟨.struct [(0,3),(1,3),(2,3),(3,3)],4,32,[iZ,iZ,iZ,iZ]⟩,
 none,
 some ⟨.struct [(0,3),(1,3),(2,3),(3,3)],4,32,[iZ,iZ,iZ,iZ]⟩,
 none,
 some ⟨.struct [(0,3),(1,3)],2,16,[iZ,iZ]⟩,
 none,
 some ⟨.struct [(0,3),(1,3),(2,3),(3,3)],4,32,[iZ,iZ,iZ,iZ]⟩,
 none,
 some ⟨.struct [(0,3),(1,3),(2,3),(3,3)],4,32,[iZ,iZ,iZ,iZ]⟩,
 none,
 some ⟨.struct [(0,3),(1,3),(2,3),(3,3),(4,3),(5,3)],6,48,[iZ,iZ,iZ,iZ,iZ,iZ]⟩,
 none,
 some ⟨.struct [(0,3),(1,4)],2,16,[iZ,bZ]⟩,
 some ⟨.struct [(0,3),(1,3)],2,16,[iZ,iZ]⟩,
 some ⟨.struct [(0,3),(1,3)],2,16,[iZ,iZ]⟩,
 none,
 some ⟨.struct [(0,3),(1,3),(2,3),(3,3),(4,43),(12,45),(16,47),(21,49),(29,51),(33,53),(37,55),(39,57),(43,59),(47,61),(53,63),(55,65)],57,456,[iZ,iZ,iZ,iZ,iZ,iZ,iZ,iZ,iZ,iZ,iZ,iZ,iZ,iZ,iZ,iZ,iZ,iZ,iZ,iZ,iZ,iZ,iZ,iZ,iZ,iZ,iZ,iZ,iZ,iZ,iZ,iZ,iZ,iZ,iZ,iZ,iZ,iZ,iZ,iZ,iZ,iZ,iZ,iZ,iZ,iZ,iZ,iZ,iZ,iZ,iZ,iZ,iZ,iZ,bZ,iZ,iZ]⟩,
 none,
 none,
 none,
 none,
 none,
 none,
 none,
 none,
 none,
 some ⟨.int .u64,1,8,[.int .u64 0]⟩,
 some ⟨.slice 87,1,24,[nZ]⟩,
 none,
 some ⟨.struct [(0,3),(1,78),(2,78),(3,78)],4,80,[iZ,nZ,nZ,nZ]⟩,
 none,
 some ⟨.struct [(0,67),(57,80)],61,536,[iZ,iZ,iZ,iZ,iZ,iZ,iZ,iZ,iZ,iZ,iZ,iZ,iZ,iZ,iZ,iZ,iZ,iZ,iZ,iZ,iZ,iZ,iZ,iZ,iZ,iZ,iZ,iZ,iZ,iZ,iZ,iZ,iZ,iZ,iZ,iZ,iZ,iZ,iZ,iZ,iZ,iZ,iZ,iZ,iZ,iZ,iZ,iZ,iZ,iZ,iZ,iZ,iZ,iZ,bZ,iZ,iZ,iZ,nZ,nZ,nZ]⟩,
 none,
 tF,
 none,
 none,
 some ⟨.array 32 5,32,32,[uZ,uZ,uZ,uZ,uZ,uZ,uZ,uZ,uZ,uZ,uZ,uZ,uZ,uZ,uZ,uZ,uZ,uZ,uZ,uZ,uZ,uZ,uZ,uZ,uZ,uZ,uZ,uZ,uZ,uZ,uZ,uZ]⟩,
 none,
 none,
 none,
 none,
 none,
 none,
 some ⟨.slice 98,1,24,[nZ]⟩,
 none,
 none,
 none,
 some ⟨.struct [(0,67),(57,4),(58,4),(59,5)],60,464,[iZ,iZ,iZ,iZ,iZ,iZ,iZ,iZ,iZ,iZ,iZ,iZ,iZ,iZ,iZ,iZ,iZ,iZ,iZ,iZ,iZ,iZ,iZ,iZ,iZ,iZ,iZ,iZ,iZ,iZ,iZ,iZ,iZ,iZ,iZ,iZ,iZ,iZ,iZ,iZ,iZ,iZ,iZ,iZ,iZ,iZ,iZ,iZ,iZ,iZ,iZ,iZ,iZ,iZ,bZ,iZ,iZ,bZ,bZ,uZ]⟩,
 none,
 none,
 none,
 none,
 none,
 none,
 none,
 none,
 none,
 none,
 none,
 none,
 none,
 tF,
 none,
 none,
 some ⟨.struct [(0,33)],13,184,[iZ,nZ,iZ,iZ,nZ,nZ,iZ,bZ,iZ,nZ,iZ,nZ,iZ]⟩,
 some ⟨.array 5 34,5,40,[.nilFunc,.nilFunc,.nilFunc,.nilFunc,.nilFunc]⟩,
 none,
 none,
 none,
 none,
 none,
 none,
 none,
 none,
 none,
 none,
 none,
 tF,
 none,
 none,
 none,
 none,
 none,
 none,
 none,
 none,
 none,
 none,
 none,
 none,
 none,
 none,
 none,
 none,
 none,
 none,
 some ⟨.struct [(0,3),(1,22)],2,32,[iZ,nZ]⟩,
 none,
 none,
 tF,
 tF,
 none,
 none,
 none,
 tF,
 none,
 none,
 none,
 none,
 none,
 some ⟨.slice 3,1,24,[nZ]⟩,
 none,
 none,
 some ⟨.slice 166,1,24,[nZ]⟩,
 none,
 some ⟨.struct [(0,3),(1,3),(2,9),(3,164)],4,56,[iZ,iZ,sZ,nZ]⟩,
 none,
 none,
 none,
 none,
 none,
 some ⟨.int .u64,1,8,[.int .u64 0]⟩,
 none,
 none,
 none,
 none,
 none,
 none,
 none,
 none,
 none,
 none,
 none,
 none,
 none,
 none,
 none,
 tF,
 none,
 some ⟨.struct [(0,22),(1,3)],2,32,[nZ,iZ]⟩,
 none,
 none,
 none,
 some ⟨.array 64 4,64,64,[bZ,bZ,bZ,bZ,bZ,bZ,bZ,bZ,bZ,bZ,bZ,bZ,bZ,bZ,bZ,bZ,bZ,bZ,bZ,bZ,bZ,bZ,bZ,bZ,bZ,bZ,bZ,bZ,bZ,bZ,bZ,bZ,bZ,bZ,bZ,bZ,bZ,bZ,bZ,bZ,bZ,bZ,bZ,bZ,bZ,bZ,bZ,bZ,bZ,bZ,bZ,bZ,bZ,bZ,bZ,bZ,bZ,bZ,bZ,bZ,bZ,bZ,bZ,bZ]⟩,
 none,
 none,
 none,
 none,
 none,
 none,
 none,
 tF,
 none,
 none,
 none,
 none,
 none,
 none,
 none,
 none,
 none,
 tF,
 tF,
 none,
 none,
 tF,
 none,
 none,
 none,
 none,
 none,
 none,
 none,
 none,
 none,
 some ⟨.slice 238,1,24,[nZ]⟩,
 none,
 some ⟨.struct [(0,226),(1,34)],2,32,[nZ,.nilFunc]⟩,
 none,
 none,
 some ⟨.ptr 67,1,8,[.pointer none]⟩,
 some ⟨.ptr 3,1,8,[.pointer none]⟩,
 none,
 tF,
 none,
 some ⟨.struct [(0,3),(1,3)],2,16,[iZ,iZ]⟩,
 none,
 some ⟨.struct [(0,232),(1,236)],3,24,[.pointer none,iZ,iZ]⟩,
 none,
 tF,
 none,
 some ⟨.struct [(0,240)],1,8,[.nilFunc]⟩,
 some ⟨.ptr 293,1,8,[.pointer none]⟩,
 none,
 none,
 none,
 some ⟨.array 128 5,128,128,[uZ,uZ,uZ,uZ,uZ,uZ,uZ,uZ,uZ,uZ,uZ,uZ,uZ,uZ,uZ,uZ,uZ,uZ,uZ,uZ,uZ,uZ,uZ,uZ,uZ,uZ,uZ,uZ,uZ,uZ,uZ,uZ,uZ,uZ,uZ,uZ,uZ,uZ,uZ,uZ,uZ,uZ,uZ,uZ,uZ,uZ,uZ,uZ,uZ,uZ,uZ,uZ,uZ,uZ,uZ,uZ,uZ,uZ,uZ,uZ,uZ,uZ,uZ,uZ,uZ,uZ,uZ,uZ,uZ,uZ,uZ,uZ,uZ,uZ,uZ,uZ,uZ,uZ,uZ,uZ,uZ,uZ,uZ,uZ,uZ,uZ,uZ,uZ,uZ,uZ,uZ,uZ,uZ,uZ,uZ,uZ,uZ,uZ,uZ,uZ,uZ,uZ,uZ,uZ,uZ,uZ,uZ,uZ,uZ,uZ,uZ,uZ,uZ,uZ,uZ,uZ,uZ,uZ,uZ,uZ,uZ,uZ,uZ,uZ,uZ,uZ,uZ,uZ]⟩,
 none,
 some ⟨.int .u32,1,4,[wZ]⟩,
 none,
 none,
 none,
 none,
 none,
 some ⟨.slice 4,1,24,[nZ]⟩,
 none,
 none,
 none,
 none,
 tF,
 none,
 none,
 none,
 none,
 none,
 none,
 none,
 none,
 none,
 none,
 none,
 none,
 none,
 none,
 none,
 none,
 some ⟨.ptr 279,1,8,[.pointer none]⟩,
 none,
 some ⟨.struct [(0,22),(1,3),(2,4)],3,40,[nZ,iZ,bZ]⟩,
 none,
 some ⟨.ptr 43,1,8,[.pointer none]⟩,
 some ⟨.ptr 45,1,8,[.pointer none]⟩,
 some ⟨.ptr 47,1,8,[.pointer none]⟩,
 some ⟨.ptr 49,1,8,[.pointer none]⟩,
 some ⟨.ptr 51,1,8,[.pointer none]⟩,
 some ⟨.ptr 53,1,8,[.pointer none]⟩,
 some ⟨.ptr 55,1,8,[.pointer none]⟩,
 some ⟨.ptr 57,1,8,[.pointer none]⟩,
 some ⟨.ptr 59,1,8,[.pointer none]⟩,
 some ⟨.ptr 61,1,8,[.pointer none]⟩,
 none,
 none,
 some ⟨.array 4 242,4,32,[.nilFunc,.nilFunc,.nilFunc,.nilFunc]⟩,
 none,
 none,
 none,
 none,
 none,
 none,
 none,
 none,
 none,
 some ⟨.ptr 305,1,8,[.pointer none]⟩,
 none,
 some ⟨.struct [(0,22)],1,24,[nZ]⟩,
 none,
 some ⟨.array 8 249,8,32,[wZ,wZ,wZ,wZ,wZ,wZ,wZ,wZ]⟩,
 none,
 some ⟨.ptr 307,1,8,[.pointer none]⟩,
 none,
 none,
 none,
 none,
 none,
 none,
 none,
 none,
 none,
 none,
 none,
 none,
 none,
 none,
 some ⟨.array 4 4,4,4,[bZ,bZ,bZ,bZ]⟩,
 some ⟨.array 16 249,16,64,[wZ,wZ,wZ,wZ,wZ,wZ,wZ,wZ,wZ,wZ,wZ,wZ,wZ,wZ,wZ,wZ]⟩,
 some ⟨.array 16 249,16,64,[wZ,wZ,wZ,wZ,wZ,wZ,wZ,wZ,wZ,wZ,wZ,wZ,wZ,wZ,wZ,wZ]⟩,
 some ⟨.slice 249,1,24,[nZ]⟩,
 tF,
 some ⟨.array 16 5,16,16,[uZ,uZ,uZ,uZ,uZ,uZ,uZ,uZ,uZ,uZ,uZ,uZ,uZ,uZ,uZ,uZ]⟩,
 some ⟨.array 10 329,160,160,[uZ,uZ,uZ,uZ,uZ,uZ,uZ,uZ,uZ,uZ,uZ,uZ,uZ,uZ,uZ,uZ,uZ,uZ,uZ,uZ,uZ,uZ,uZ,uZ,uZ,uZ,uZ,uZ,uZ,uZ,uZ,uZ,uZ,uZ,uZ,uZ,uZ,uZ,uZ,uZ,uZ,uZ,uZ,uZ,uZ,uZ,uZ,uZ,uZ,uZ,uZ,uZ,uZ,uZ,uZ,uZ,uZ,uZ,uZ,uZ,uZ,uZ,uZ,uZ,uZ,uZ,uZ,uZ,uZ,uZ,uZ,uZ,uZ,uZ,uZ,uZ,uZ,uZ,uZ,uZ,uZ,uZ,uZ,uZ,uZ,uZ,uZ,uZ,uZ,uZ,uZ,uZ,uZ,uZ,uZ,uZ,uZ,uZ,uZ,uZ,uZ,uZ,uZ,uZ,uZ,uZ,uZ,uZ,uZ,uZ,uZ,uZ,uZ,uZ,uZ,uZ,uZ,uZ,uZ,uZ,uZ,uZ,uZ,uZ,uZ,uZ,uZ,uZ,uZ,uZ,uZ,uZ,uZ,uZ,uZ,uZ,uZ,uZ,uZ,uZ,uZ,uZ,uZ,uZ,uZ,uZ,uZ,uZ,uZ,uZ,uZ,uZ,uZ,uZ,uZ,uZ,uZ,uZ,uZ,uZ]⟩,
 none,
 none,
 none,
 none,
 none,
 some ⟨.array 16 3,16,128,[iZ,iZ,iZ,iZ,iZ,iZ,iZ,iZ,iZ,iZ,iZ,iZ,iZ,iZ,iZ,iZ]⟩,
 some ⟨.array 10 336,160,1280,[iZ,iZ,iZ,iZ,iZ,iZ,iZ,iZ,iZ,iZ,iZ,iZ,iZ,iZ,iZ,iZ,iZ,iZ,iZ,iZ,iZ,iZ,iZ,iZ,iZ,iZ,iZ,iZ,iZ,iZ,iZ,iZ,iZ,iZ,iZ,iZ,iZ,iZ,iZ,iZ,iZ,iZ,iZ,iZ,iZ,iZ,iZ,iZ,iZ,iZ,iZ,iZ,iZ,iZ,iZ,iZ,iZ,iZ,iZ,iZ,iZ,iZ,iZ,iZ,iZ,iZ,iZ,iZ,iZ,iZ,iZ,iZ,iZ,iZ,iZ,iZ,iZ,iZ,iZ,iZ,iZ,iZ,iZ,iZ,iZ,iZ,iZ,iZ,iZ,iZ,iZ,iZ,iZ,iZ,iZ,iZ,iZ,iZ,iZ,iZ,iZ,iZ,iZ,iZ,iZ,iZ,iZ,iZ,iZ,iZ,iZ,iZ,iZ,iZ,iZ,iZ,iZ,iZ,iZ,iZ,iZ,iZ,iZ,iZ,iZ,iZ,iZ,iZ,iZ,iZ,iZ,iZ,iZ,iZ,iZ,iZ,iZ,iZ,iZ,iZ,iZ,iZ,iZ,iZ,iZ,iZ,iZ,iZ,iZ,iZ,iZ,iZ,iZ,iZ,iZ,iZ,iZ,iZ,iZ,iZ]⟩,
 none,
 some ⟨.array 4 3,4,32,[iZ,iZ,iZ,iZ]⟩,
 none,
 none,
 some ⟨.ptr 326,1,8,[.pointer none]⟩,
 none,
 none,
 none,
 none,
 none,
 none,
 none,
 some ⟨.array 0 16,0,0,[]⟩,
 none,
 some ⟨.struct [(0,350)],0,0,[]⟩,
 none,
 none,
 none,
 none,
 none,
 none,
 none,
 none]
def ak_:Tab:=fun T=>i8_[T]?.bind id
def AllOk (P:Program):Nat→List (Option TE)→Prop
 | _,[]=>True
 | n,none::l=>AllOk P (n+1) l
 | n,some e::l=>TyOk P n e∧AllOk P (n+1) l
theorem AllOk.at {P:Program}:∀ (l:List (Option TE)) (n i:Nat) (e:TE),AllOk P n l→l[i]? = some (some e)→TyOk P (n+i) e
 | [],_,_,_,_,h=>by simp at h
 | none::l,n,0,_,_,h=>by simp at h
 | none::l,n,i+1,e,h,hi=>by have:=AllOk.at l (n+1) i e h (by simpa using hi);rwa[Nat.add_assoc,Nat.add_comm 1 i] at this
 | some d::l,n,0,e,h,hi=>by simp at hi;subst hi;exact h.1
 | some d::l,n,i+1,e,h,hi=>by have:=AllOk.at l (n+1) i e h.2 (by simpa using hi);rwa[Nat.add_assoc,Nat.add_comm 1 i] at this
@[simp] theorem Fw_:ak_ 1=some ⟨.func,1,8,[.nilFunc]⟩:=rfl
@[simp] theorem Fv_:ak_ 2=some ⟨.int .i64,1,8,[iZ]⟩:=rfl
@[simp] theorem Aa_:ak_ 3=some ⟨.int .i64,1,8,[iZ]⟩:=rfl
@[simp] theorem z9_:ak_ 4=some ⟨.bool,1,1,[bZ]⟩:=rfl
@[simp] theorem vg_:ak_ 5=some ⟨.int .u8,1,1,[uZ]⟩:=rfl
@[simp] theorem Fu_:ak_ 6=some ⟨.int .u8,1,1,[uZ]⟩:=rfl
@[simp] theorem Ft_:ak_ 8=some ⟨.struct [(0,2),(1,3),(2,4),(3,6)],4,24,[iZ,iZ,bZ,uZ]⟩:=rfl
@[simp] theorem Fs_:ak_ 9=some ⟨.string,1,16,[sZ]⟩:=rfl
@[simp] theorem Eg_:ak_ 10=some ⟨.string,1,16,[sZ]⟩:=rfl
@[simp] theorem Ef_:ak_ 16=some ⟨.ptr 352,1,8,[.pointer none]⟩:=rfl
@[simp] theorem Ee_:ak_ 20=some ⟨.iface,1,16,[.nilIface]⟩:=rfl
@[simp] theorem xo_:ak_ 22=some ⟨.slice 5,1,24,[nZ]⟩:=rfl
@[simp] theorem xn_:ak_ 24=some ⟨.struct [(0,22),(1,3),(2,3)],3,40,[nZ,iZ,iZ]⟩:=rfl
@[simp] theorem xm_:ak_ 25=some ⟨.slice 22,1,24,[nZ]⟩:=rfl
@[simp] theorem xl_:ak_ 26=some ⟨.slice 147,1,24,[nZ]⟩:=rfl
@[simp] theorem xk_:ak_ 28=some ⟨.struct [(0,25),(1,26),(2,3),(3,4)],4,64,[nZ,nZ,iZ,bZ]⟩:=rfl
@[simp] theorem xj_:ak_ 30=some ⟨.struct [(0,3),(1,25),(2,3)],3,40,[iZ,nZ,iZ]⟩:=rfl
@[simp] theorem xi_:ak_ 31=some ⟨.slice 82,1,24,[nZ]⟩:=rfl
@[simp] theorem Ed_:ak_ 32=some ⟨.struct [(0,3),(1,24),(4,28),(8,30),(11,31),(12,3)],13,184,[iZ,nZ,iZ,iZ,nZ,nZ,iZ,bZ,iZ,nZ,iZ,nZ,iZ]⟩:=rfl
@[simp] theorem xh_:ak_ 33=some ⟨.struct [(0,3),(1,24),(4,28),(8,30),(11,31),(12,3)],13,184,[iZ,nZ,iZ,iZ,nZ,nZ,iZ,bZ,iZ,nZ,iZ,nZ,iZ]⟩:=rfl
@[simp] theorem Ec_:ak_ 34=some ⟨.func,1,8,[.nilFunc]⟩:=rfl
@[simp] theorem Eb_:ak_ 36=some ⟨.int .i64,1,8,[iZ]⟩:=rfl
@[simp] theorem Ea_:ak_ 42=some ⟨.struct [(0,3),(1,3),(2,3),(3,3),(4,3),(5,3),(6,3),(7,3)],8,64,[iZ,iZ,iZ,iZ,iZ,iZ,iZ,iZ]⟩:=rfl
@[simp] theorem D9_:ak_ 43=some ⟨.struct [(0,3),(1,3),(2,3),(3,3),(4,3),(5,3),(6,3),(7,3)],8,64,[iZ,iZ,iZ,iZ,iZ,iZ,iZ,iZ]⟩:=rfl
@[simp] theorem D8_:ak_ 45=some ⟨.struct [(0,3),(1,3),(2,3),(3,3)],4,32,[iZ,iZ,iZ,iZ]⟩:=rfl
@[simp] theorem D7_:ak_ 47=some ⟨.struct [(0,3),(1,3),(2,3),(3,3),(4,3)],5,40,[iZ,iZ,iZ,iZ,iZ]⟩:=rfl
@[simp] theorem D6_:ak_ 49=some ⟨.struct [(0,3),(1,3),(2,3),(3,3),(4,3),(5,3),(6,3),(7,3)],8,64,[iZ,iZ,iZ,iZ,iZ,iZ,iZ,iZ]⟩:=rfl
@[simp] theorem D5_:ak_ 51=some ⟨.struct [(0,3),(1,3),(2,3),(3,3)],4,32,[iZ,iZ,iZ,iZ]⟩:=rfl
@[simp] theorem D4_:ak_ 53=some ⟨.struct [(0,3),(1,3),(2,3),(3,3)],4,32,[iZ,iZ,iZ,iZ]⟩:=rfl
@[simp] theorem D3_:ak_ 55=some ⟨.struct [(0,3),(1,3)],2,16,[iZ,iZ]⟩:=rfl
@[simp] theorem D2_:ak_ 57=some ⟨.struct [(0,3),(1,3),(2,3),(3,3)],4,32,[iZ,iZ,iZ,iZ]⟩:=rfl
@[simp] theorem D1_:ak_ 59=some ⟨.struct [(0,3),(1,3),(2,3),(3,3)],4,32,[iZ,iZ,iZ,iZ]⟩:=rfl
@[simp] theorem D0_:ak_ 61=some ⟨.struct [(0,3),(1,3),(2,3),(3,3),(4,3),(5,3)],6,48,[iZ,iZ,iZ,iZ,iZ,iZ]⟩:=rfl
@[simp] theorem DZ_:ak_ 63=some ⟨.struct [(0,3),(1,4)],2,16,[iZ,bZ]⟩:=rfl
@[simp] theorem DY_:ak_ 64=some ⟨.struct [(0,3),(1,3)],2,16,[iZ,iZ]⟩:=rfl
@[simp] theorem DX_:ak_ 65=some ⟨.struct [(0,3),(1,3)],2,16,[iZ,iZ]⟩:=rfl
@[simp] theorem DW_:ak_ 67=some ⟨.struct [(0,3),(1,3),(2,3),(3,3),(4,43),(12,45),(16,47),(21,49),(29,51),(33,53),(37,55),(39,57),(43,59),(47,61),(53,63),(55,65)],57,456,[iZ,iZ,iZ,iZ,iZ,iZ,iZ,iZ,iZ,iZ,iZ,iZ,iZ,iZ,iZ,iZ,iZ,iZ,iZ,iZ,iZ,iZ,iZ,iZ,iZ,iZ,iZ,iZ,iZ,iZ,iZ,iZ,iZ,iZ,iZ,iZ,iZ,iZ,iZ,iZ,iZ,iZ,iZ,iZ,iZ,iZ,iZ,iZ,iZ,iZ,iZ,iZ,iZ,iZ,bZ,iZ,iZ]⟩:=rfl
@[simp] theorem DV_:ak_ 77=some ⟨.int .u64,1,8,[.int .u64 0]⟩:=rfl
@[simp] theorem xg_:ak_ 78=some ⟨.slice 87,1,24,[nZ]⟩:=rfl
@[simp] theorem xf_:ak_ 80=some ⟨.struct [(0,3),(1,78),(2,78),(3,78)],4,80,[iZ,nZ,nZ,nZ]⟩:=rfl
@[simp] theorem xe_:ak_ 82=some ⟨.struct [(0,67),(57,80)],61,536,[iZ,iZ,iZ,iZ,iZ,iZ,iZ,iZ,iZ,iZ,iZ,iZ,iZ,iZ,iZ,iZ,iZ,iZ,iZ,iZ,iZ,iZ,iZ,iZ,iZ,iZ,iZ,iZ,iZ,iZ,iZ,iZ,iZ,iZ,iZ,iZ,iZ,iZ,iZ,iZ,iZ,iZ,iZ,iZ,iZ,iZ,iZ,iZ,iZ,iZ,iZ,iZ,iZ,iZ,bZ,iZ,iZ,iZ,nZ,nZ,nZ]⟩:=rfl
@[simp] theorem DU_:ak_ 84=some ⟨.func,1,8,[.nilFunc]⟩:=rfl
@[simp] theorem lM_:ak_ 87=some ⟨.array 32 5,32,32,[uZ,uZ,uZ,uZ,uZ,uZ,uZ,uZ,uZ,uZ,uZ,uZ,uZ,uZ,uZ,uZ,uZ,uZ,uZ,uZ,uZ,uZ,uZ,uZ,uZ,uZ,uZ,uZ,uZ,uZ,uZ,uZ]⟩:=rfl
@[simp] theorem DT_:ak_ 94=some ⟨.slice 98,1,24,[nZ]⟩:=rfl
@[simp] theorem DS_:ak_ 98=some ⟨.struct [(0,67),(57,4),(58,4),(59,5)],60,464,[iZ,iZ,iZ,iZ,iZ,iZ,iZ,iZ,iZ,iZ,iZ,iZ,iZ,iZ,iZ,iZ,iZ,iZ,iZ,iZ,iZ,iZ,iZ,iZ,iZ,iZ,iZ,iZ,iZ,iZ,iZ,iZ,iZ,iZ,iZ,iZ,iZ,iZ,iZ,iZ,iZ,iZ,iZ,iZ,iZ,iZ,iZ,iZ,iZ,iZ,iZ,iZ,iZ,iZ,bZ,iZ,iZ,bZ,bZ,uZ]⟩:=rfl
@[simp] theorem Di_:ak_ 112=some ⟨.func,1,8,[.nilFunc]⟩:=rfl
@[simp] theorem Dh_:ak_ 115=some ⟨.struct [(0,33)],13,184,[iZ,nZ,iZ,iZ,nZ,nZ,iZ,bZ,iZ,nZ,iZ,nZ,iZ]⟩:=rfl
@[simp] theorem Dg_:ak_ 116=some ⟨.array 5 34,5,40,[.nilFunc,.nilFunc,.nilFunc,.nilFunc,.nilFunc]⟩:=rfl
@[simp] theorem Df_:ak_ 128=some ⟨.func,1,8,[.nilFunc]⟩:=rfl
@[simp] theorem vh_:ak_ 147=some ⟨.struct [(0,3),(1,22)],2,32,[iZ,nZ]⟩:=rfl
@[simp] theorem De_:ak_ 150=some ⟨.func,1,8,[.nilFunc]⟩:=rfl
@[simp] theorem Dd_:ak_ 151=some ⟨.func,1,8,[.nilFunc]⟩:=rfl
@[simp] theorem Dc_:ak_ 155=some ⟨.func,1,8,[.nilFunc]⟩:=rfl
@[simp] theorem Db_:ak_ 161=some ⟨.slice 3,1,24,[nZ]⟩:=rfl
@[simp] theorem Da_:ak_ 164=some ⟨.slice 166,1,24,[nZ]⟩:=rfl
@[simp] theorem C9_:ak_ 166=some ⟨.struct [(0,3),(1,3),(2,9),(3,164)],4,56,[iZ,iZ,sZ,nZ]⟩:=rfl
@[simp] theorem C8_:ak_ 172=some ⟨.int .u64,1,8,[.int .u64 0]⟩:=rfl
@[simp] theorem C7_:ak_ 188=some ⟨.func,1,8,[.nilFunc]⟩:=rfl
@[simp] theorem C6_:ak_ 190=some ⟨.struct [(0,22),(1,3)],2,32,[nZ,iZ]⟩:=rfl
@[simp] theorem C5_:ak_ 194=some ⟨.array 64 4,64,64,[bZ,bZ,bZ,bZ,bZ,bZ,bZ,bZ,bZ,bZ,bZ,bZ,bZ,bZ,bZ,bZ,bZ,bZ,bZ,bZ,bZ,bZ,bZ,bZ,bZ,bZ,bZ,bZ,bZ,bZ,bZ,bZ,bZ,bZ,bZ,bZ,bZ,bZ,bZ,bZ,bZ,bZ,bZ,bZ,bZ,bZ,bZ,bZ,bZ,bZ,bZ,bZ,bZ,bZ,bZ,bZ,bZ,bZ,bZ,bZ,bZ,bZ,bZ,bZ]⟩:=rfl
@[simp] theorem C4_:ak_ 202=some ⟨.func,1,8,[.nilFunc]⟩:=rfl
@[simp] theorem C3_:ak_ 212=some ⟨.func,1,8,[.nilFunc]⟩:=rfl
@[simp] theorem C2_:ak_ 213=some ⟨.func,1,8,[.nilFunc]⟩:=rfl
@[simp] theorem C1_:ak_ 216=some ⟨.func,1,8,[.nilFunc]⟩:=rfl
@[simp] theorem C0_:ak_ 226=some ⟨.slice 238,1,24,[nZ]⟩:=rfl
@[simp] theorem CZ_:ak_ 228=some ⟨.struct [(0,226),(1,34)],2,32,[nZ,.nilFunc]⟩:=rfl
@[simp] theorem CY_:ak_ 231=some ⟨.ptr 67,1,8,[.pointer none]⟩:=rfl
@[simp] theorem CX_:ak_ 232=some ⟨.ptr 3,1,8,[.pointer none]⟩:=rfl
@[simp] theorem CW_:ak_ 234=some ⟨.func,1,8,[.nilFunc]⟩:=rfl
@[simp] theorem CV_:ak_ 236=some ⟨.struct [(0,3),(1,3)],2,16,[iZ,iZ]⟩:=rfl
@[simp] theorem CU_:ak_ 238=some ⟨.struct [(0,232),(1,236)],3,24,[.pointer none,iZ,iZ]⟩:=rfl
@[simp] theorem CT_:ak_ 240=some ⟨.func,1,8,[.nilFunc]⟩:=rfl
@[simp] theorem CS_:ak_ 242=some ⟨.struct [(0,240)],1,8,[.nilFunc]⟩:=rfl
@[simp] theorem CR_:ak_ 243=some ⟨.ptr 293,1,8,[.pointer none]⟩:=rfl
@[simp] theorem CQ_:ak_ 247=some ⟨.array 128 5,128,128,[uZ,uZ,uZ,uZ,uZ,uZ,uZ,uZ,uZ,uZ,uZ,uZ,uZ,uZ,uZ,uZ,uZ,uZ,uZ,uZ,uZ,uZ,uZ,uZ,uZ,uZ,uZ,uZ,uZ,uZ,uZ,uZ,uZ,uZ,uZ,uZ,uZ,uZ,uZ,uZ,uZ,uZ,uZ,uZ,uZ,uZ,uZ,uZ,uZ,uZ,uZ,uZ,uZ,uZ,uZ,uZ,uZ,uZ,uZ,uZ,uZ,uZ,uZ,uZ,uZ,uZ,uZ,uZ,uZ,uZ,uZ,uZ,uZ,uZ,uZ,uZ,uZ,uZ,uZ,uZ,uZ,uZ,uZ,uZ,uZ,uZ,uZ,uZ,uZ,uZ,uZ,uZ,uZ,uZ,uZ,uZ,uZ,uZ,uZ,uZ,uZ,uZ,uZ,uZ,uZ,uZ,uZ,uZ,uZ,uZ,uZ,uZ,uZ,uZ,uZ,uZ,uZ,uZ,uZ,uZ,uZ,uZ,uZ,uZ,uZ,uZ,uZ,uZ]⟩:=rfl
@[simp] theorem CP_:ak_ 249=some ⟨.int .u32,1,4,[wZ]⟩:=rfl
@[simp] theorem CO_:ak_ 255=some ⟨.slice 4,1,24,[nZ]⟩:=rfl
@[simp] theorem CN_:ak_ 260=some ⟨.func,1,8,[.nilFunc]⟩:=rfl
@[simp] theorem CM_:ak_ 277=some ⟨.ptr 279,1,8,[.pointer none]⟩:=rfl
@[simp] theorem CL_:ak_ 279=some ⟨.struct [(0,22),(1,3),(2,4)],3,40,[nZ,iZ,bZ]⟩:=rfl
@[simp] theorem CK_:ak_ 281=some ⟨.ptr 43,1,8,[.pointer none]⟩:=rfl
@[simp] theorem CJ_:ak_ 282=some ⟨.ptr 45,1,8,[.pointer none]⟩:=rfl
@[simp] theorem CI_:ak_ 283=some ⟨.ptr 47,1,8,[.pointer none]⟩:=rfl
@[simp] theorem CH_:ak_ 284=some ⟨.ptr 49,1,8,[.pointer none]⟩:=rfl
@[simp] theorem CG_:ak_ 285=some ⟨.ptr 51,1,8,[.pointer none]⟩:=rfl
@[simp] theorem CF_:ak_ 286=some ⟨.ptr 53,1,8,[.pointer none]⟩:=rfl
@[simp] theorem CE_:ak_ 287=some ⟨.ptr 55,1,8,[.pointer none]⟩:=rfl
@[simp] theorem CD_:ak_ 288=some ⟨.ptr 57,1,8,[.pointer none]⟩:=rfl
@[simp] theorem CC_:ak_ 289=some ⟨.ptr 59,1,8,[.pointer none]⟩:=rfl
@[simp] theorem CB_:ak_ 290=some ⟨.ptr 61,1,8,[.pointer none]⟩:=rfl
@[simp] theorem CA_:ak_ 293=some ⟨.array 4 242,4,32,[.nilFunc,.nilFunc,.nilFunc,.nilFunc]⟩:=rfl
@[simp] theorem Cz_:ak_ 303=some ⟨.ptr 305,1,8,[.pointer none]⟩:=rfl
@[simp] theorem Cy_:ak_ 305=some ⟨.struct [(0,22)],1,24,[nZ]⟩:=rfl
@[simp] theorem Cx_:ak_ 307=some ⟨.array 8 249,8,32,[wZ,wZ,wZ,wZ,wZ,wZ,wZ,wZ]⟩:=rfl
@[simp] theorem Cw_:ak_ 309=some ⟨.ptr 307,1,8,[.pointer none]⟩:=rfl
@[simp] theorem Cv_:ak_ 324=some ⟨.array 4 4,4,4,[bZ,bZ,bZ,bZ]⟩:=rfl
@[simp] theorem Cu_:ak_ 325=some ⟨.array 16 249,16,64,[wZ,wZ,wZ,wZ,wZ,wZ,wZ,wZ,wZ,wZ,wZ,wZ,wZ,wZ,wZ,wZ]⟩:=rfl
@[simp] theorem Ct_:ak_ 326=some ⟨.array 16 249,16,64,[wZ,wZ,wZ,wZ,wZ,wZ,wZ,wZ,wZ,wZ,wZ,wZ,wZ,wZ,wZ,wZ]⟩:=rfl
@[simp] theorem Cs_:ak_ 327=some ⟨.slice 249,1,24,[nZ]⟩:=rfl
@[simp] theorem Cr_:ak_ 328=some ⟨.func,1,8,[.nilFunc]⟩:=rfl
@[simp] theorem Cq_:ak_ 329=some ⟨.array 16 5,16,16,[uZ,uZ,uZ,uZ,uZ,uZ,uZ,uZ,uZ,uZ,uZ,uZ,uZ,uZ,uZ,uZ]⟩:=rfl
@[simp] theorem Cp_:ak_ 330=some ⟨.array 10 329,160,160,[uZ,uZ,uZ,uZ,uZ,uZ,uZ,uZ,uZ,uZ,uZ,uZ,uZ,uZ,uZ,uZ,uZ,uZ,uZ,uZ,uZ,uZ,uZ,uZ,uZ,uZ,uZ,uZ,uZ,uZ,uZ,uZ,uZ,uZ,uZ,uZ,uZ,uZ,uZ,uZ,uZ,uZ,uZ,uZ,uZ,uZ,uZ,uZ,uZ,uZ,uZ,uZ,uZ,uZ,uZ,uZ,uZ,uZ,uZ,uZ,uZ,uZ,uZ,uZ,uZ,uZ,uZ,uZ,uZ,uZ,uZ,uZ,uZ,uZ,uZ,uZ,uZ,uZ,uZ,uZ,uZ,uZ,uZ,uZ,uZ,uZ,uZ,uZ,uZ,uZ,uZ,uZ,uZ,uZ,uZ,uZ,uZ,uZ,uZ,uZ,uZ,uZ,uZ,uZ,uZ,uZ,uZ,uZ,uZ,uZ,uZ,uZ,uZ,uZ,uZ,uZ,uZ,uZ,uZ,uZ,uZ,uZ,uZ,uZ,uZ,uZ,uZ,uZ,uZ,uZ,uZ,uZ,uZ,uZ,uZ,uZ,uZ,uZ,uZ,uZ,uZ,uZ,uZ,uZ,uZ,uZ,uZ,uZ,uZ,uZ,uZ,uZ,uZ,uZ,uZ,uZ,uZ,uZ,uZ,uZ]⟩:=rfl
@[simp] theorem Co_:ak_ 336=some ⟨.array 16 3,16,128,[iZ,iZ,iZ,iZ,iZ,iZ,iZ,iZ,iZ,iZ,iZ,iZ,iZ,iZ,iZ,iZ]⟩:=rfl
@[simp] theorem Cn_:ak_ 337=some ⟨.array 10 336,160,1280,[iZ,iZ,iZ,iZ,iZ,iZ,iZ,iZ,iZ,iZ,iZ,iZ,iZ,iZ,iZ,iZ,iZ,iZ,iZ,iZ,iZ,iZ,iZ,iZ,iZ,iZ,iZ,iZ,iZ,iZ,iZ,iZ,iZ,iZ,iZ,iZ,iZ,iZ,iZ,iZ,iZ,iZ,iZ,iZ,iZ,iZ,iZ,iZ,iZ,iZ,iZ,iZ,iZ,iZ,iZ,iZ,iZ,iZ,iZ,iZ,iZ,iZ,iZ,iZ,iZ,iZ,iZ,iZ,iZ,iZ,iZ,iZ,iZ,iZ,iZ,iZ,iZ,iZ,iZ,iZ,iZ,iZ,iZ,iZ,iZ,iZ,iZ,iZ,iZ,iZ,iZ,iZ,iZ,iZ,iZ,iZ,iZ,iZ,iZ,iZ,iZ,iZ,iZ,iZ,iZ,iZ,iZ,iZ,iZ,iZ,iZ,iZ,iZ,iZ,iZ,iZ,iZ,iZ,iZ,iZ,iZ,iZ,iZ,iZ,iZ,iZ,iZ,iZ,iZ,iZ,iZ,iZ,iZ,iZ,iZ,iZ,iZ,iZ,iZ,iZ,iZ,iZ,iZ,iZ,iZ,iZ,iZ,iZ,iZ,iZ,iZ,iZ,iZ,iZ,iZ,iZ,iZ,iZ,iZ,iZ]⟩:=rfl
@[simp] theorem Cm_:ak_ 339=some ⟨.array 4 3,4,32,[iZ,iZ,iZ,iZ]⟩:=rfl
@[simp] theorem Cl_:ak_ 342=some ⟨.ptr 326,1,8,[.pointer none]⟩:=rfl
@[simp] theorem Ck_:ak_ 350=some ⟨.array 0 16,0,0,[]⟩:=rfl
@[simp] theorem Cj_:ak_ 352=some ⟨.struct [(0,350)],0,0,[]⟩:=rfl
set_option maxRecDepth 100000 in
/-- A type's entry is right, by looking. -/
theorem tyS {P:Program} {T:Nat} {e:TE} (i:TypeInfo) {d:TypeDesc} (hu:P.underlying T=some d) (hk:e.k.ok d:=by first|rfl|exact⟨_,rfl,rfl⟩|exact⟨_,_,_,rfl⟩|exact⟨_,rfl⟩) (hi:P.info? T=some i:=by kernel_rfl)
  (h:∃ z,i.size=e.size∧i.bytes=e.bytes∧i.zero=some z∧z.cells.toList=e.zero∧e.zero.length=e.size∧e.zero.all (·.oneCell')=true:=by exact⟨_,rfl,rfl,rfl,rfl,rfl,rfl⟩):TyOk P T e:=⟨⟨i,h.choose,hi,h.choose_spec⟩,⟨d,hu,hk⟩⟩
set_option maxRecDepth 20000 in
theorem ac_:ay_ Tryz.prog ak_:=by
 intro T e h
 have hL:AllOk Tryz.prog 0 i8_:=by
  unfold i8_
  refine⟨tyS Tryz.t1 Tryz.underlying1,?_⟩
  refine⟨tyS Tryz.t2 Tryz.underlying2,?_⟩
  refine⟨tyS Tryz.t3 Tryz.underlying3,?_⟩
  refine⟨tyS Tryz.t4 Tryz.underlying4,?_⟩
  refine⟨tyS Tryz.t5 Tryz.underlying5,?_⟩
  refine⟨tyS Tryz.t6 Tryz.underlying6,?_⟩
  refine⟨tyS Tryz.t8 Tryz.underlying8,?_⟩
  refine⟨tyS Tryz.t9 Tryz.underlying9,?_⟩
  refine⟨tyS Tryz.t10 Tryz.underlying10,?_⟩
  refine⟨tyS Tryz.t16 Tryz.underlying16,?_⟩
  refine⟨tyS Tryz.t20 Tryz.underlying20,?_⟩
  refine⟨tyS Tryz.t22 Tryz.underlying22,?_⟩
  refine⟨tyS Tryz.t24 Tryz.underlying24,?_⟩
  refine⟨tyS Tryz.t25 Tryz.underlying25,?_⟩
  refine⟨tyS Tryz.t26 Tryz.underlying26,?_⟩
  refine⟨tyS Tryz.t28 Tryz.underlying28,?_⟩
  refine⟨tyS Tryz.t30 Tryz.underlying30,?_⟩
  refine⟨tyS Tryz.t31 Tryz.underlying31,?_⟩
  refine⟨tyS Tryz.t32 Tryz.underlying32,?_⟩
  refine⟨tyS Tryz.t33 Tryz.underlying33,?_⟩
  refine⟨tyS Tryz.t34 Tryz.underlying34,?_⟩
  refine⟨tyS Tryz.t36 Tryz.underlying36,?_⟩
  refine⟨tyS Tryz.t42 Tryz.underlying42,?_⟩
  refine⟨tyS Tryz.t43 Tryz.underlying43,?_⟩
  refine⟨tyS Tryz.t45 Tryz.underlying45,?_⟩
  refine⟨tyS Tryz.t47 Tryz.underlying47,?_⟩
  refine⟨tyS Tryz.t49 Tryz.underlying49,?_⟩
  refine⟨tyS Tryz.t51 Tryz.underlying51,?_⟩
  refine⟨tyS Tryz.t53 Tryz.underlying53,?_⟩
  refine⟨tyS Tryz.t55 Tryz.underlying55,?_⟩
  refine⟨tyS Tryz.t57 Tryz.underlying57,?_⟩
  refine⟨tyS Tryz.t59 Tryz.underlying59,?_⟩
  refine⟨tyS Tryz.t61 Tryz.underlying61,?_⟩
  refine⟨tyS Tryz.t63 Tryz.underlying63,?_⟩
  refine⟨tyS Tryz.t64 Tryz.underlying64,?_⟩
  refine⟨tyS Tryz.t65 Tryz.underlying65,?_⟩
  refine⟨tyS Tryz.t67 Tryz.underlying67,?_⟩
  refine⟨tyS Tryz.t77 Tryz.underlying77,?_⟩
  refine⟨tyS Tryz.t78 Tryz.underlying78,?_⟩
  refine⟨tyS Tryz.t80 Tryz.underlying80,?_⟩
  refine⟨tyS Tryz.t82 Tryz.underlying82,?_⟩
  refine⟨tyS Tryz.t84 Tryz.underlying84,?_⟩
  refine⟨tyS Tryz.t87 Tryz.underlying87,?_⟩
  refine⟨tyS Tryz.t94 Tryz.underlying94,?_⟩
  refine⟨tyS Tryz.t98 Tryz.underlying98,?_⟩
  refine⟨tyS Tryz.t112 Tryz.underlying112,?_⟩
  refine⟨tyS Tryz.t115 Tryz.underlying115,?_⟩
  refine⟨tyS Tryz.t116 Tryz.underlying116,?_⟩
  refine⟨tyS Tryz.t128 Tryz.underlying128,?_⟩
  refine⟨tyS Tryz.t147 Tryz.underlying147,?_⟩
  refine⟨tyS Tryz.t150 Tryz.underlying150,?_⟩
  refine⟨tyS Tryz.t151 Tryz.underlying151,?_⟩
  refine⟨tyS Tryz.t155 Tryz.underlying155,?_⟩
  refine⟨tyS Tryz.t161 Tryz.underlying161,?_⟩
  refine⟨tyS Tryz.t164 Tryz.underlying164,?_⟩
  refine⟨tyS Tryz.t166 Tryz.underlying166,?_⟩
  refine⟨tyS Tryz.t172 Tryz.underlying172,?_⟩
  refine⟨tyS Tryz.t188 Tryz.underlying188,?_⟩
  refine⟨tyS Tryz.t190 Tryz.underlying190,?_⟩
  refine⟨tyS Tryz.t194 Tryz.underlying194,?_⟩
  refine⟨tyS Tryz.t202 Tryz.underlying202,?_⟩
  refine⟨tyS Tryz.t212 Tryz.underlying212,?_⟩
  refine⟨tyS Tryz.t213 Tryz.underlying213,?_⟩
  refine⟨tyS Tryz.t216 Tryz.underlying216,?_⟩
  refine⟨tyS Tryz.t226 Tryz.underlying226,?_⟩
  refine⟨tyS Tryz.t228 Tryz.underlying228,?_⟩
  refine⟨tyS Tryz.t231 Tryz.underlying231,?_⟩
  refine⟨tyS Tryz.t232 Tryz.underlying232,?_⟩
  refine⟨tyS Tryz.t234 Tryz.underlying234,?_⟩
  refine⟨tyS Tryz.t236 Tryz.underlying236,?_⟩
  refine⟨tyS Tryz.t238 Tryz.underlying238,?_⟩
  refine⟨tyS Tryz.t240 Tryz.underlying240,?_⟩
  refine⟨tyS Tryz.t242 Tryz.underlying242,?_⟩
  refine⟨tyS Tryz.t243 Tryz.underlying243,?_⟩
  refine⟨tyS Tryz.t247 Tryz.underlying247,?_⟩
  refine⟨tyS Tryz.t249 Tryz.underlying249,?_⟩
  refine⟨tyS Tryz.t255 Tryz.underlying255,?_⟩
  refine⟨tyS Tryz.t260 Tryz.underlying260,?_⟩
  refine⟨tyS Tryz.t277 Tryz.underlying277,?_⟩
  refine⟨tyS Tryz.t279 Tryz.underlying279,?_⟩
  refine⟨tyS Tryz.t281 Tryz.underlying281,?_⟩
  refine⟨tyS Tryz.t282 Tryz.underlying282,?_⟩
  refine⟨tyS Tryz.t283 Tryz.underlying283,?_⟩
  refine⟨tyS Tryz.t284 Tryz.underlying284,?_⟩
  refine⟨tyS Tryz.t285 Tryz.underlying285,?_⟩
  refine⟨tyS Tryz.t286 Tryz.underlying286,?_⟩
  refine⟨tyS Tryz.t287 Tryz.underlying287,?_⟩
  refine⟨tyS Tryz.t288 Tryz.underlying288,?_⟩
  refine⟨tyS Tryz.t289 Tryz.underlying289,?_⟩
  refine⟨tyS Tryz.t290 Tryz.underlying290,?_⟩
  refine⟨tyS Tryz.t293 Tryz.underlying293,?_⟩
  refine⟨tyS Tryz.t303 Tryz.underlying303,?_⟩
  refine⟨tyS Tryz.t305 Tryz.underlying305,?_⟩
  refine⟨tyS Tryz.t307 Tryz.underlying307,?_⟩
  refine⟨tyS Tryz.t309 Tryz.underlying309,?_⟩
  refine⟨tyS Tryz.t324 Tryz.underlying324,?_⟩
  refine⟨tyS Tryz.t325 Tryz.underlying325,?_⟩
  refine⟨tyS Tryz.t326 Tryz.underlying326,?_⟩
  refine⟨tyS Tryz.t327 Tryz.underlying327,?_⟩
  refine⟨tyS Tryz.t328 Tryz.underlying328,?_⟩
  refine⟨tyS Tryz.t329 Tryz.underlying329,?_⟩
  refine⟨tyS Tryz.t330 Tryz.underlying330,?_⟩
  refine⟨tyS Tryz.t336 Tryz.underlying336,?_⟩
  refine⟨tyS Tryz.t337 Tryz.underlying337,?_⟩
  refine⟨tyS Tryz.t339 Tryz.underlying339,?_⟩
  refine⟨tyS Tryz.t342 Tryz.underlying342,?_⟩
  refine⟨tyS Tryz.t350 Tryz.underlying350,?_⟩
  refine⟨tyS Tryz.t352 Tryz.underlying352,?_⟩
  exact trivial
 unfold ak_ at h
 have h2:i8_[T]? = some (some e):=by
  cases ht:i8_[T]? with
  | none=>rw[ht] at h;cases h
  | some x=>rw[ht] at h;exact congrArg some h
 have:=AllOk.at _ 0 T e hL h2
 rwa[Nat.zero_add] at this
theorem dg_:Tryz.prog.follows .mixedOrders=true:=by kernel_rfl
theorem jx_:Body Tryz.prog 10:=⟨Tryz.f10,_,Tryz.func10,rfl,by kernel_rfl⟩
theorem jw_:Body Tryz.prog 11:=⟨Tryz.f11,_,Tryz.func11,rfl,by kernel_rfl⟩
theorem fi_:Body Tryz.prog 12:=⟨Tryz.f12,_,Tryz.func12,rfl,by kernel_rfl⟩
theorem pZ_:Body Tryz.prog 13:=⟨Tryz.f13,_,Tryz.func13,rfl,by kernel_rfl⟩
theorem dG_:Body Tryz.prog 14:=⟨Tryz.f14,_,Tryz.func14,rfl,by kernel_rfl⟩
theorem bl_:Body Tryz.prog 15:=⟨Tryz.f15,_,Tryz.func15,rfl,by kernel_rfl⟩
theorem cJ_:Body Tryz.prog 16:=⟨Tryz.f16,_,Tryz.func16,rfl,by kernel_rfl⟩
theorem fh_:Body Tryz.prog 17:=⟨Tryz.f17,_,Tryz.func17,rfl,by kernel_rfl⟩
theorem fg_:Body Tryz.prog 19:=⟨Tryz.f19,_,Tryz.func19,rfl,by kernel_rfl⟩
theorem pY_:Body Tryz.prog 20:=⟨Tryz.f20,_,Tryz.func20,rfl,by kernel_rfl⟩
theorem ff_:Body Tryz.prog 21:=⟨Tryz.f21,_,Tryz.func21,rfl,by kernel_rfl⟩
theorem pX_:Body Tryz.prog 22:=⟨Tryz.f22,_,Tryz.func22,rfl,by kernel_rfl⟩
theorem fe_:Body Tryz.prog 23:=⟨Tryz.f23,_,Tryz.func23,rfl,by kernel_rfl⟩
theorem pW_:Body Tryz.prog 24:=⟨Tryz.f24,_,Tryz.func24,rfl,by kernel_rfl⟩
theorem jv_:Body Tryz.prog 25:=⟨Tryz.f25,_,Tryz.func25,rfl,by kernel_rfl⟩
theorem ju_:Body Tryz.prog 26:=⟨Tryz.f26,_,Tryz.func26,rfl,by kernel_rfl⟩
theorem pV_:Body Tryz.prog 27:=⟨Tryz.f27,_,Tryz.func27,rfl,by kernel_rfl⟩
theorem jt_:Body Tryz.prog 28:=⟨Tryz.f28,_,Tryz.func28,rfl,by kernel_rfl⟩
theorem cI_:Body Tryz.prog 29:=⟨Tryz.f29,_,Tryz.func29,rfl,by kernel_rfl⟩
theorem pU_:Body Tryz.prog 31:=⟨Tryz.f31,_,Tryz.func31,rfl,by kernel_rfl⟩
theorem js_:Body Tryz.prog 35:=⟨Tryz.f35,_,Tryz.func35,rfl,by kernel_rfl⟩
theorem pT_:Body Tryz.prog 36:=⟨Tryz.f36,_,Tryz.func36,rfl,by kernel_rfl⟩
theorem pS_:Body Tryz.prog 37:=⟨Tryz.f37,_,Tryz.func37,rfl,by kernel_rfl⟩
theorem fd_:Body Tryz.prog 38:=⟨Tryz.f38,_,Tryz.func38,rfl,by kernel_rfl⟩
theorem jr_:Body Tryz.prog 39:=⟨Tryz.f39,_,Tryz.func39,rfl,by kernel_rfl⟩
theorem cH_:Body Tryz.prog 40:=⟨Tryz.f40,_,Tryz.func40,rfl,by kernel_rfl⟩
theorem dF_:Body Tryz.prog 41:=⟨Tryz.f41,_,Tryz.func41,rfl,by kernel_rfl⟩
theorem jq_:Body Tryz.prog 42:=⟨Tryz.f42,_,Tryz.func42,rfl,by kernel_rfl⟩
theorem dE_:Body Tryz.prog 43:=⟨Tryz.f43,_,Tryz.func43,rfl,by kernel_rfl⟩
theorem pR_:Body Tryz.prog 44:=⟨Tryz.f44,_,Tryz.func44,rfl,by kernel_rfl⟩
theorem pQ_:Body Tryz.prog 45:=⟨Tryz.f45,_,Tryz.func45,rfl,by kernel_rfl⟩
theorem pP_:Body Tryz.prog 46:=⟨Tryz.f46,_,Tryz.func46,rfl,by kernel_rfl⟩
theorem pO_:Body Tryz.prog 47:=⟨Tryz.f47,_,Tryz.func47,rfl,by kernel_rfl⟩
theorem pN_:Body Tryz.prog 48:=⟨Tryz.f48,_,Tryz.func48,rfl,by kernel_rfl⟩
theorem pM_:Body Tryz.prog 49:=⟨Tryz.f49,_,Tryz.func49,rfl,by kernel_rfl⟩
theorem pL_:Body Tryz.prog 50:=⟨Tryz.f50,_,Tryz.func50,rfl,by kernel_rfl⟩
theorem dD_:Body Tryz.prog 51:=⟨Tryz.f51,_,Tryz.func51,rfl,by kernel_rfl⟩
theorem jp_:Body Tryz.prog 52:=⟨Tryz.f52,_,Tryz.func52,rfl,by kernel_rfl⟩
theorem jo_:Body Tryz.prog 53:=⟨Tryz.f53,_,Tryz.func53,rfl,by kernel_rfl⟩
theorem cG_:Body Tryz.prog 54:=⟨Tryz.f54,_,Tryz.func54,rfl,by kernel_rfl⟩
theorem fc_:Body Tryz.prog 55:=⟨Tryz.f55,_,Tryz.func55,rfl,by kernel_rfl⟩
theorem pK_:Body Tryz.prog 56:=⟨Tryz.f56,_,Tryz.func56,rfl,by kernel_rfl⟩
theorem pJ_:Body Tryz.prog 57:=⟨Tryz.f57,_,Tryz.func57,rfl,by kernel_rfl⟩
theorem pI_:Body Tryz.prog 58:=⟨Tryz.f58,_,Tryz.func58,rfl,by kernel_rfl⟩
theorem jn_:Body Tryz.prog 59:=⟨Tryz.f59,_,Tryz.func59,rfl,by kernel_rfl⟩
theorem jm_:Body Tryz.prog 60:=⟨Tryz.f60,_,Tryz.func60,rfl,by kernel_rfl⟩
theorem jl_:Body Tryz.prog 61:=⟨Tryz.f61,_,Tryz.func61,rfl,by kernel_rfl⟩
theorem pH_:Body Tryz.prog 64:=⟨Tryz.f64,_,Tryz.func64,rfl,by kernel_rfl⟩
theorem jk_:Body Tryz.prog 65:=⟨Tryz.f65,_,Tryz.func65,rfl,by kernel_rfl⟩
theorem pG_:Body Tryz.prog 66:=⟨Tryz.f66,_,Tryz.func66,rfl,by kernel_rfl⟩
theorem jj_:Body Tryz.prog 67:=⟨Tryz.f67,_,Tryz.func67,rfl,by kernel_rfl⟩
theorem ji_:Body Tryz.prog 68:=⟨Tryz.f68,_,Tryz.func68,rfl,by kernel_rfl⟩
theorem jh_:Body Tryz.prog 69:=⟨Tryz.f69,_,Tryz.func69,rfl,by kernel_rfl⟩
theorem fb_:Body Tryz.prog 70:=⟨Tryz.f70,_,Tryz.func70,rfl,by kernel_rfl⟩
theorem b9_:Body Tryz.prog 71:=⟨Tryz.f71,_,Tryz.func71,rfl,by kernel_rfl⟩
theorem jg_:Body Tryz.prog 72:=⟨Tryz.f72,_,Tryz.func72,rfl,by kernel_rfl⟩
theorem pF_:Body Tryz.prog 74:=⟨Tryz.f74,_,Tryz.func74,rfl,by kernel_rfl⟩
theorem pE_:Body Tryz.prog 76:=⟨Tryz.f76,_,Tryz.func76,rfl,by kernel_rfl⟩
theorem jf_:Body Tryz.prog 77:=⟨Tryz.f77,_,Tryz.func77,rfl,by kernel_rfl⟩
theorem pD_:Body Tryz.prog 80:=⟨Tryz.f80,_,Tryz.func80,rfl,by kernel_rfl⟩
theorem pC_:Body Tryz.prog 81:=⟨Tryz.f81,_,Tryz.func81,rfl,by kernel_rfl⟩
theorem dC_:Body Tryz.prog 82:=⟨Tryz.f82,_,Tryz.func82,rfl,by kernel_rfl⟩
theorem pB_:Body Tryz.prog 83:=⟨Tryz.f83,_,Tryz.func83,rfl,by kernel_rfl⟩
theorem b8_:Body Tryz.prog 84:=⟨Tryz.f84,_,Tryz.func84,rfl,by kernel_rfl⟩
theorem je_:Body Tryz.prog 85:=⟨Tryz.f85,_,Tryz.func85,rfl,by kernel_rfl⟩
theorem pA_:Body Tryz.prog 86:=⟨Tryz.f86,_,Tryz.func86,rfl,by kernel_rfl⟩
theorem jd_:Body Tryz.prog 87:=⟨Tryz.f87,_,Tryz.func87,rfl,by kernel_rfl⟩
theorem fa_:Body Tryz.prog 88:=⟨Tryz.f88,_,Tryz.func88,rfl,by kernel_rfl⟩
theorem pz_:Body Tryz.prog 89:=⟨Tryz.f89,_,Tryz.func89,rfl,by kernel_rfl⟩
theorem py_:Body Tryz.prog 90:=⟨Tryz.f90,_,Tryz.func90,rfl,by kernel_rfl⟩
theorem px_:Body Tryz.prog 91:=⟨Tryz.f91,_,Tryz.func91,rfl,by kernel_rfl⟩
theorem jc_:Body Tryz.prog 92:=⟨Tryz.f92,_,Tryz.func92,rfl,by kernel_rfl⟩
theorem jb_:Body Tryz.prog 93:=⟨Tryz.f93,_,Tryz.func93,rfl,by kernel_rfl⟩
theorem pw_:Body Tryz.prog 94:=⟨Tryz.f94,_,Tryz.func94,rfl,by kernel_rfl⟩
theorem ja_:Body Tryz.prog 95:=⟨Tryz.f95,_,Tryz.func95,rfl,by kernel_rfl⟩
theorem e9_:Body Tryz.prog 96:=⟨Tryz.f96,_,Tryz.func96,rfl,by kernel_rfl⟩
theorem e8_:Body Tryz.prog 97:=⟨Tryz.f97,_,Tryz.func97,rfl,by kernel_rfl⟩
theorem pv_:Body Tryz.prog 98:=⟨Tryz.f98,_,Tryz.func98,rfl,by kernel_rfl⟩
theorem i9_:Body Tryz.prog 99:=⟨Tryz.f99,_,Tryz.func99,rfl,by kernel_rfl⟩
theorem aM_:Body Tryz.prog 100:=⟨Tryz.f100,_,Tryz.func100,rfl,by kernel_rfl⟩
theorem od_:Body Tryz.prog 101:=⟨Tryz.f101,_,Tryz.func101,rfl,by kernel_rfl⟩
theorem hx_:Body Tryz.prog 102:=⟨Tryz.f102,_,Tryz.func102,rfl,by kernel_rfl⟩
theorem oc_:Body Tryz.prog 103:=⟨Tryz.f103,_,Tryz.func103,rfl,by kernel_rfl⟩
theorem hw_:Body Tryz.prog 104:=⟨Tryz.f104,_,Tryz.func104,rfl,by kernel_rfl⟩
theorem hv_:Body Tryz.prog 105:=⟨Tryz.f105,_,Tryz.func105,rfl,by kernel_rfl⟩
theorem ob_:Body Tryz.prog 106:=⟨Tryz.f106,_,Tryz.func106,rfl,by kernel_rfl⟩
theorem oa_:Body Tryz.prog 107:=⟨Tryz.f107,_,Tryz.func107,rfl,by kernel_rfl⟩
theorem n9_:Body Tryz.prog 108:=⟨Tryz.f108,_,Tryz.func108,rfl,by kernel_rfl⟩
theorem n8_:Body Tryz.prog 109:=⟨Tryz.f109,_,Tryz.func109,rfl,by kernel_rfl⟩
theorem n7_:Body Tryz.prog 117:=⟨Tryz.f117,_,Tryz.func117,rfl,by kernel_rfl⟩
theorem ep_:Body Tryz.prog 118:=⟨Tryz.f118,_,Tryz.func118,rfl,by kernel_rfl⟩
theorem eo_:Body Tryz.prog 119:=⟨Tryz.f119,_,Tryz.func119,rfl,by kernel_rfl⟩
theorem bi_:Body Tryz.prog 120:=⟨Tryz.f120,_,Tryz.func120,rfl,by kernel_rfl⟩
theorem n6_:Body Tryz.prog 121:=⟨Tryz.f121,_,Tryz.func121,rfl,by kernel_rfl⟩
theorem hu_:Body Tryz.prog 122:=⟨Tryz.f122,_,Tryz.func122,rfl,by kernel_rfl⟩
theorem n5_:Body Tryz.prog 123:=⟨Tryz.f123,_,Tryz.func123,rfl,by kernel_rfl⟩
theorem n4_:Body Tryz.prog 124:=⟨Tryz.f124,_,Tryz.func124,rfl,by kernel_rfl⟩
theorem ht_:Body Tryz.prog 125:=⟨Tryz.f125,_,Tryz.func125,rfl,by kernel_rfl⟩
theorem n3_:Body Tryz.prog 128:=⟨Tryz.f128,_,Tryz.func128,rfl,by kernel_rfl⟩
theorem n2_:Body Tryz.prog 130:=⟨Tryz.f130,_,Tryz.func130,rfl,by kernel_rfl⟩
theorem n1_:Body Tryz.prog 140:=⟨Tryz.f140,_,Tryz.func140,rfl,by kernel_rfl⟩
theorem n0_:Body Tryz.prog 141:=⟨Tryz.f141,_,Tryz.func141,rfl,by kernel_rfl⟩
theorem hs_:Body Tryz.prog 142:=⟨Tryz.f142,_,Tryz.func142,rfl,by kernel_rfl⟩
theorem nZ_:Body Tryz.prog 143:=⟨Tryz.f143,_,Tryz.func143,rfl,by kernel_rfl⟩
theorem nY_:Body Tryz.prog 144:=⟨Tryz.f144,_,Tryz.func144,rfl,by kernel_rfl⟩
theorem nX_:Body Tryz.prog 145:=⟨Tryz.f145,_,Tryz.func145,rfl,by kernel_rfl⟩
theorem nW_:Body Tryz.prog 146:=⟨Tryz.f146,_,Tryz.func146,rfl,by kernel_rfl⟩
theorem cj_:Body Tryz.prog 147:=⟨Tryz.f147,_,Tryz.func147,rfl,by kernel_rfl⟩
theorem bE_:Body Tryz.prog 148:=⟨Tryz.f148,_,Tryz.func148,rfl,by kernel_rfl⟩
theorem en_:Body Tryz.prog 149:=⟨Tryz.f149,_,Tryz.func149,rfl,by kernel_rfl⟩
theorem nV_:Body Tryz.prog 150:=⟨Tryz.f150,_,Tryz.func150,rfl,by kernel_rfl⟩
theorem cY_:Body Tryz.prog 151:=⟨Tryz.f151,_,Tryz.func151,rfl,by kernel_rfl⟩
theorem bU_:Body Tryz.prog 152:=⟨Tryz.f152,_,Tryz.func152,rfl,by kernel_rfl⟩
theorem nU_:Body Tryz.prog 153:=⟨Tryz.f153,_,Tryz.func153,rfl,by kernel_rfl⟩
theorem em_:Body Tryz.prog 154:=⟨Tryz.f154,_,Tryz.func154,rfl,by kernel_rfl⟩
theorem bb_:Body Tryz.prog 155:=⟨Tryz.f155,_,Tryz.func155,rfl,by kernel_rfl⟩
theorem el_:Body Tryz.prog 156:=⟨Tryz.f156,_,Tryz.func156,rfl,by kernel_rfl⟩
theorem hr_:Body Tryz.prog 157:=⟨Tryz.f157,_,Tryz.func157,rfl,by kernel_rfl⟩
theorem nT_:Body Tryz.prog 158:=⟨Tryz.f158,_,Tryz.func158,rfl,by kernel_rfl⟩
theorem nS_:Body Tryz.prog 159:=⟨Tryz.f159,_,Tryz.func159,rfl,by kernel_rfl⟩
theorem hq_:Body Tryz.prog 160:=⟨Tryz.f160,_,Tryz.func160,rfl,by kernel_rfl⟩
theorem bD_:Body Tryz.prog 161:=⟨Tryz.f161,_,Tryz.func161,rfl,by kernel_rfl⟩
theorem hp_:Body Tryz.prog 162:=⟨Tryz.f162,_,Tryz.func162,rfl,by kernel_rfl⟩
theorem ci_:Body Tryz.prog 163:=⟨Tryz.f163,_,Tryz.func163,rfl,by kernel_rfl⟩
theorem nR_:Body Tryz.prog 164:=⟨Tryz.f164,_,Tryz.func164,rfl,by kernel_rfl⟩
theorem ek_:Body Tryz.prog 165:=⟨Tryz.f165,_,Tryz.func165,rfl,by kernel_rfl⟩
theorem nQ_:Body Tryz.prog 166:=⟨Tryz.f166,_,Tryz.func166,rfl,by kernel_rfl⟩
theorem nP_:Body Tryz.prog 167:=⟨Tryz.f167,_,Tryz.func167,rfl,by kernel_rfl⟩
theorem nO_:Body Tryz.prog 168:=⟨Tryz.f168,_,Tryz.func168,rfl,by kernel_rfl⟩
theorem bT_:Body Tryz.prog 169:=⟨Tryz.f169,_,Tryz.func169,rfl,by kernel_rfl⟩
theorem ho_:Body Tryz.prog 170:=⟨Tryz.f170,_,Tryz.func170,rfl,by kernel_rfl⟩
theorem hn_:Body Tryz.prog 171:=⟨Tryz.f171,_,Tryz.func171,rfl,by kernel_rfl⟩
theorem hm_:Body Tryz.prog 172:=⟨Tryz.f172,_,Tryz.func172,rfl,by kernel_rfl⟩
theorem hl_:Body Tryz.prog 173:=⟨Tryz.f173,_,Tryz.func173,rfl,by kernel_rfl⟩
theorem as_:Body Tryz.prog 174:=⟨Tryz.f174,_,Tryz.func174,rfl,by kernel_rfl⟩
theorem nN_:Body Tryz.prog 175:=⟨Tryz.f175,_,Tryz.func175,rfl,by kernel_rfl⟩
theorem nM_:Body Tryz.prog 176:=⟨Tryz.f176,_,Tryz.func176,rfl,by kernel_rfl⟩
theorem nL_:Body Tryz.prog 177:=⟨Tryz.f177,_,Tryz.func177,rfl,by kernel_rfl⟩
theorem nK_:Body Tryz.prog 178:=⟨Tryz.f178,_,Tryz.func178,rfl,by kernel_rfl⟩
theorem hk_:Body Tryz.prog 179:=⟨Tryz.f179,_,Tryz.func179,rfl,by kernel_rfl⟩
theorem ej_:Body Tryz.prog 180:=⟨Tryz.f180,_,Tryz.func180,rfl,by kernel_rfl⟩
theorem nJ_:Body Tryz.prog 181:=⟨Tryz.f181,_,Tryz.func181,rfl,by kernel_rfl⟩
theorem nI_:Body Tryz.prog 183:=⟨Tryz.f183,_,Tryz.func183,rfl,by kernel_rfl⟩
theorem hj_:Body Tryz.prog 184:=⟨Tryz.f184,_,Tryz.func184,rfl,by kernel_rfl⟩
theorem hi_:Body Tryz.prog 185:=⟨Tryz.f185,_,Tryz.func185,rfl,by kernel_rfl⟩
theorem ei_:Body Tryz.prog 186:=⟨Tryz.f186,_,Tryz.func186,rfl,by kernel_rfl⟩
theorem hh_:Body Tryz.prog 187:=⟨Tryz.f187,_,Tryz.func187,rfl,by kernel_rfl⟩
theorem cX_:Body Tryz.prog 188:=⟨Tryz.f188,_,Tryz.func188,rfl,by kernel_rfl⟩
theorem nH_:Body Tryz.prog 189:=⟨Tryz.f189,_,Tryz.func189,rfl,by kernel_rfl⟩
theorem hg_:Body Tryz.prog 191:=⟨Tryz.f191,_,Tryz.func191,rfl,by kernel_rfl⟩
theorem nG_:Body Tryz.prog 199:=⟨Tryz.f199,_,Tryz.func199,rfl,by kernel_rfl⟩
theorem nF_:Body Tryz.prog 200:=⟨Tryz.f200,_,Tryz.func200,rfl,by kernel_rfl⟩
theorem nE_:Body Tryz.prog 201:=⟨Tryz.f201,_,Tryz.func201,rfl,by kernel_rfl⟩
theorem hf_:Body Tryz.prog 202:=⟨Tryz.f202,_,Tryz.func202,rfl,by kernel_rfl⟩
theorem he_:Body Tryz.prog 203:=⟨Tryz.f203,_,Tryz.func203,rfl,by kernel_rfl⟩
theorem nD_:Body Tryz.prog 204:=⟨Tryz.f204,_,Tryz.func204,rfl,by kernel_rfl⟩
theorem hd_:Body Tryz.prog 205:=⟨Tryz.f205,_,Tryz.func205,rfl,by kernel_rfl⟩
theorem nC_:Body Tryz.prog 206:=⟨Tryz.f206,_,Tryz.func206,rfl,by kernel_rfl⟩
theorem nB_:Body Tryz.prog 207:=⟨Tryz.f207,_,Tryz.func207,rfl,by kernel_rfl⟩
theorem nA_:Body Tryz.prog 208:=⟨Tryz.f208,_,Tryz.func208,rfl,by kernel_rfl⟩
theorem nz_:Body Tryz.prog 209:=⟨Tryz.f209,_,Tryz.func209,rfl,by kernel_rfl⟩
theorem ny_:Body Tryz.prog 210:=⟨Tryz.f210,_,Tryz.func210,rfl,by kernel_rfl⟩
theorem nx_:Body Tryz.prog 211:=⟨Tryz.f211,_,Tryz.func211,rfl,by kernel_rfl⟩
theorem hc_:Body Tryz.prog 212:=⟨Tryz.f212,_,Tryz.func212,rfl,by kernel_rfl⟩
theorem hb_:Body Tryz.prog 213:=⟨Tryz.f213,_,Tryz.func213,rfl,by kernel_rfl⟩
theorem eh_:Body Tryz.prog 214:=⟨Tryz.f214,_,Tryz.func214,rfl,by kernel_rfl⟩
theorem nw_:Body Tryz.prog 215:=⟨Tryz.f215,_,Tryz.func215,rfl,by kernel_rfl⟩
theorem ha_:Body Tryz.prog 216:=⟨Tryz.f216,_,Tryz.func216,rfl,by kernel_rfl⟩
theorem g9_:Body Tryz.prog 217:=⟨Tryz.f217,_,Tryz.func217,rfl,by kernel_rfl⟩
theorem nv_:Body Tryz.prog 218:=⟨Tryz.f218,_,Tryz.func218,rfl,by kernel_rfl⟩
theorem nu_:Body Tryz.prog 219:=⟨Tryz.f219,_,Tryz.func219,rfl,by kernel_rfl⟩
theorem ch_:Body Tryz.prog 220:=⟨Tryz.f220,_,Tryz.func220,rfl,by kernel_rfl⟩
theorem cg_:Body Tryz.prog 221:=⟨Tryz.f221,_,Tryz.func221,rfl,by kernel_rfl⟩
theorem g8_:Body Tryz.prog 222:=⟨Tryz.f222,_,Tryz.func222,rfl,by kernel_rfl⟩
theorem aL_:Body Tryz.prog 223:=⟨Tryz.f223,_,Tryz.func223,rfl,by kernel_rfl⟩
theorem nt_:Body Tryz.prog 224:=⟨Tryz.f224,_,Tryz.func224,rfl,by kernel_rfl⟩
theorem bh_:Body Tryz.prog 225:=⟨Tryz.f225,_,Tryz.func225,rfl,by kernel_rfl⟩
theorem cf_:Body Tryz.prog 226:=⟨Tryz.f226,_,Tryz.func226,rfl,by kernel_rfl⟩
theorem cW_:Body Tryz.prog 227:=⟨Tryz.f227,_,Tryz.func227,rfl,by kernel_rfl⟩
theorem ns_:Body Tryz.prog 228:=⟨Tryz.f228,_,Tryz.func228,rfl,by kernel_rfl⟩
theorem eg_:Body Tryz.prog 229:=⟨Tryz.f229,_,Tryz.func229,rfl,by kernel_rfl⟩
theorem g7_:Body Tryz.prog 230:=⟨Tryz.f230,_,Tryz.func230,rfl,by kernel_rfl⟩
theorem g6_:Body Tryz.prog 231:=⟨Tryz.f231,_,Tryz.func231,rfl,by kernel_rfl⟩
theorem cV_:Body Tryz.prog 232:=⟨Tryz.f232,_,Tryz.func232,rfl,by kernel_rfl⟩
theorem nr_:Body Tryz.prog 233:=⟨Tryz.f233,_,Tryz.func233,rfl,by kernel_rfl⟩
theorem cU_:Body Tryz.prog 235:=⟨Tryz.f235,_,Tryz.func235,rfl,by kernel_rfl⟩
theorem aB_:Body Tryz.prog 236:=⟨Tryz.f236,_,Tryz.func236,rfl,by kernel_rfl⟩
theorem g5_:Body Tryz.prog 237:=⟨Tryz.f237,_,Tryz.func237,rfl,by kernel_rfl⟩
theorem nq_:Body Tryz.prog 238:=⟨Tryz.f238,_,Tryz.func238,rfl,by kernel_rfl⟩
theorem np_:Body Tryz.prog 240:=⟨Tryz.f240,_,Tryz.func240,rfl,by kernel_rfl⟩
theorem g4_:Body Tryz.prog 252:=⟨Tryz.f252,_,Tryz.func252,rfl,by kernel_rfl⟩
theorem g3_:Body Tryz.prog 253:=⟨Tryz.f253,_,Tryz.func253,rfl,by kernel_rfl⟩
theorem bS_:Body Tryz.prog 254:=⟨Tryz.f254,_,Tryz.func254,rfl,by kernel_rfl⟩
theorem ef_:Body Tryz.prog 255:=⟨Tryz.f255,_,Tryz.func255,rfl,by kernel_rfl⟩
theorem aJ_:Body Tryz.prog 256:=⟨Tryz.f256,_,Tryz.func256,rfl,by kernel_rfl⟩
theorem g2_:Body Tryz.prog 257:=⟨Tryz.f257,_,Tryz.func257,rfl,by kernel_rfl⟩
theorem ce_:Body Tryz.prog 258:=⟨Tryz.f258,_,Tryz.func258,rfl,by kernel_rfl⟩
theorem cT_:Body Tryz.prog 259:=⟨Tryz.f259,_,Tryz.func259,rfl,by kernel_rfl⟩
theorem bg_:Body Tryz.prog 260:=⟨Tryz.f260,_,Tryz.func260,rfl,by kernel_rfl⟩
theorem no_:Body Tryz.prog 267:=⟨Tryz.f267,_,Tryz.func267,rfl,by kernel_rfl⟩
theorem nn_:Body Tryz.prog 268:=⟨Tryz.f268,_,Tryz.func268,rfl,by kernel_rfl⟩
theorem cS_:Body Tryz.prog 269:=⟨Tryz.f269,_,Tryz.func269,rfl,by kernel_rfl⟩
theorem cR_:Body Tryz.prog 271:=⟨Tryz.f271,_,Tryz.func271,rfl,by kernel_rfl⟩
instance:Glob:=⟨fun
 | 11=>some [.v (.int .u32 1779033703),.v (.int .u32 3144134277),.v (.int .u32 1013904242),.v (.int .u32 2773480762),.v (.int .u32 1359893119),.v (.int .u32 2600822924),.v (.int .u32 528734635),.v (.int .u32 1541459225)]
 | 12=>some [.v (.int .u8 0),.v (.int .u8 1),.v (.int .u8 2),.v (.int .u8 3),.v (.int .u8 4),.v (.int .u8 5),.v (.int .u8 6),.v (.int .u8 7),.v (.int .u8 8),.v (.int .u8 9),.v (.int .u8 10),.v (.int .u8 11),.v (.int .u8 12),.v (.int .u8 13),.v (.int .u8 14),.v (.int .u8 15),.v (.int .u8 14),.v (.int .u8 10),.v (.int .u8 4),.v (.int .u8 8),.v (.int .u8 9),.v (.int .u8 15),.v (.int .u8 13),.v (.int .u8 6),.v (.int .u8 1),.v (.int .u8 12),.v (.int .u8 0),.v (.int .u8 2),.v (.int .u8 11),.v (.int .u8 7),.v (.int .u8 5),.v (.int .u8 3),.v (.int .u8 11),.v (.int .u8 8),.v (.int .u8 12),.v (.int .u8 0),.v (.int .u8 5),.v (.int .u8 2),.v (.int .u8 15),.v (.int .u8 13),.v (.int .u8 10),.v (.int .u8 14),.v (.int .u8 3),.v (.int .u8 6),.v (.int .u8 7),.v (.int .u8 1),.v (.int .u8 9),.v (.int .u8 4),.v (.int .u8 7),.v (.int .u8 9),.v (.int .u8 3),.v (.int .u8 1),.v (.int .u8 13),.v (.int .u8 12),.v (.int .u8 11),.v (.int .u8 14),.v (.int .u8 2),.v (.int .u8 6),.v (.int .u8 5),.v (.int .u8 10),.v (.int .u8 4),.v (.int .u8 0),.v (.int .u8 15),.v (.int .u8 8),.v (.int .u8 9),.v (.int .u8 0),.v (.int .u8 5),.v (.int .u8 7),.v (.int .u8 2),.v (.int .u8 4),.v (.int .u8 10),.v (.int .u8 15),.v (.int .u8 14),.v (.int .u8 1),.v (.int .u8 11),.v (.int .u8 12),.v (.int .u8 6),.v (.int .u8 8),.v (.int .u8 3),.v (.int .u8 13),.v (.int .u8 2),.v (.int .u8 12),.v (.int .u8 6),.v (.int .u8 10),.v (.int .u8 0),.v (.int .u8 11),.v (.int .u8 8),.v (.int .u8 3),.v (.int .u8 4),.v (.int .u8 13),.v (.int .u8 7),.v (.int .u8 5),.v (.int .u8 15),.v (.int .u8 14),.v (.int .u8 1),.v (.int .u8 9),.v (.int .u8 12),.v (.int .u8 5),.v (.int .u8 1),.v (.int .u8 15),.v (.int .u8 14),.v (.int .u8 13),.v (.int .u8 4),.v (.int .u8 10),.v (.int .u8 0),.v (.int .u8 7),.v (.int .u8 6),.v (.int .u8 3),.v (.int .u8 9),.v (.int .u8 2),.v (.int .u8 8),.v (.int .u8 11),.v (.int .u8 13),.v (.int .u8 11),.v (.int .u8 7),.v (.int .u8 14),.v (.int .u8 12),.v (.int .u8 1),.v (.int .u8 3),.v (.int .u8 9),.v (.int .u8 5),.v (.int .u8 0),.v (.int .u8 15),.v (.int .u8 4),.v (.int .u8 8),.v (.int .u8 6),.v (.int .u8 2),.v (.int .u8 10),.v (.int .u8 6),.v (.int .u8 15),.v (.int .u8 14),.v (.int .u8 9),.v (.int .u8 11),.v (.int .u8 3),.v (.int .u8 0),.v (.int .u8 8),.v (.int .u8 12),.v (.int .u8 2),.v (.int .u8 13),.v (.int .u8 7),.v (.int .u8 1),.v (.int .u8 4),.v (.int .u8 10),.v (.int .u8 5),.v (.int .u8 10),.v (.int .u8 2),.v (.int .u8 8),.v (.int .u8 4),.v (.int .u8 7),.v (.int .u8 6),.v (.int .u8 1),.v (.int .u8 5),.v (.int .u8 15),.v (.int .u8 11),.v (.int .u8 9),.v (.int .u8 14),.v (.int .u8 3),.v (.int .u8 12),.v (.int .u8 13),.v (.int .u8 0)]
 | 1=>some [.v (.int .i64 (-1099511627776)),.v (.int .i64 1099511627776)]
 | 5=>some [.v (.int .i64 0),.v (.int .i64 1099511627776)]
 | 0=>some [.v (.int .i64 1),.v (.int .i64 9999)]
 | 3=>some [.v (.int .i64 0),.v (.int .i64 39)]
 | 4=>some [.v (.int .i64 0),.v (.int .i64 255)]
 | 2=>some [.v (.int .i64 0),.v (.int .i64 1048576)]
 | 6=>some [.v (.int .i64 0),.v (.int .i64 255)]
 | 7=>some [.v (.int .i64 1),.v (.int .i64 1048576)]
 | 9=>some [.v (.int .i64 0),.v (.int .i64 31)]
 | 10=>some [.v (.int .i64 1),.v (.int .i64 1048576)]
 | 8=>some [.v (.int .i64 0),.v (.int .i64 1)]
 | _=>none⟩
@[simp] theorem Ab_:(Glob.laid 11:Option (List D))=some [.v (.int .u32 1779033703),.v (.int .u32 3144134277),.v (.int .u32 1013904242),.v (.int .u32 2773480762),.v (.int .u32 1359893119),.v (.int .u32 2600822924),.v (.int .u32 528734635),.v (.int .u32 1541459225)]:=rfl
@[simp] theorem pu_:(Glob.laid 12:Option (List D))=some [.v (.int .u8 0),.v (.int .u8 1),.v (.int .u8 2),.v (.int .u8 3),.v (.int .u8 4),.v (.int .u8 5),.v (.int .u8 6),.v (.int .u8 7),.v (.int .u8 8),.v (.int .u8 9),.v (.int .u8 10),.v (.int .u8 11),.v (.int .u8 12),.v (.int .u8 13),.v (.int .u8 14),.v (.int .u8 15),.v (.int .u8 14),.v (.int .u8 10),.v (.int .u8 4),.v (.int .u8 8),.v (.int .u8 9),.v (.int .u8 15),.v (.int .u8 13),.v (.int .u8 6),.v (.int .u8 1),.v (.int .u8 12),.v (.int .u8 0),.v (.int .u8 2),.v (.int .u8 11),.v (.int .u8 7),.v (.int .u8 5),.v (.int .u8 3),.v (.int .u8 11),.v (.int .u8 8),.v (.int .u8 12),.v (.int .u8 0),.v (.int .u8 5),.v (.int .u8 2),.v (.int .u8 15),.v (.int .u8 13),.v (.int .u8 10),.v (.int .u8 14),.v (.int .u8 3),.v (.int .u8 6),.v (.int .u8 7),.v (.int .u8 1),.v (.int .u8 9),.v (.int .u8 4),.v (.int .u8 7),.v (.int .u8 9),.v (.int .u8 3),.v (.int .u8 1),.v (.int .u8 13),.v (.int .u8 12),.v (.int .u8 11),.v (.int .u8 14),.v (.int .u8 2),.v (.int .u8 6),.v (.int .u8 5),.v (.int .u8 10),.v (.int .u8 4),.v (.int .u8 0),.v (.int .u8 15),.v (.int .u8 8),.v (.int .u8 9),.v (.int .u8 0),.v (.int .u8 5),.v (.int .u8 7),.v (.int .u8 2),.v (.int .u8 4),.v (.int .u8 10),.v (.int .u8 15),.v (.int .u8 14),.v (.int .u8 1),.v (.int .u8 11),.v (.int .u8 12),.v (.int .u8 6),.v (.int .u8 8),.v (.int .u8 3),.v (.int .u8 13),.v (.int .u8 2),.v (.int .u8 12),.v (.int .u8 6),.v (.int .u8 10),.v (.int .u8 0),.v (.int .u8 11),.v (.int .u8 8),.v (.int .u8 3),.v (.int .u8 4),.v (.int .u8 13),.v (.int .u8 7),.v (.int .u8 5),.v (.int .u8 15),.v (.int .u8 14),.v (.int .u8 1),.v (.int .u8 9),.v (.int .u8 12),.v (.int .u8 5),.v (.int .u8 1),.v (.int .u8 15),.v (.int .u8 14),.v (.int .u8 13),.v (.int .u8 4),.v (.int .u8 10),.v (.int .u8 0),.v (.int .u8 7),.v (.int .u8 6),.v (.int .u8 3),.v (.int .u8 9),.v (.int .u8 2),.v (.int .u8 8),.v (.int .u8 11),.v (.int .u8 13),.v (.int .u8 11),.v (.int .u8 7),.v (.int .u8 14),.v (.int .u8 12),.v (.int .u8 1),.v (.int .u8 3),.v (.int .u8 9),.v (.int .u8 5),.v (.int .u8 0),.v (.int .u8 15),.v (.int .u8 4),.v (.int .u8 8),.v (.int .u8 6),.v (.int .u8 2),.v (.int .u8 10),.v (.int .u8 6),.v (.int .u8 15),.v (.int .u8 14),.v (.int .u8 9),.v (.int .u8 11),.v (.int .u8 3),.v (.int .u8 0),.v (.int .u8 8),.v (.int .u8 12),.v (.int .u8 2),.v (.int .u8 13),.v (.int .u8 7),.v (.int .u8 1),.v (.int .u8 4),.v (.int .u8 10),.v (.int .u8 5),.v (.int .u8 10),.v (.int .u8 2),.v (.int .u8 8),.v (.int .u8 4),.v (.int .u8 7),.v (.int .u8 6),.v (.int .u8 1),.v (.int .u8 5),.v (.int .u8 15),.v (.int .u8 11),.v (.int .u8 9),.v (.int .u8 14),.v (.int .u8 3),.v (.int .u8 12),.v (.int .u8 13),.v (.int .u8 0)]:=rfl
@[simp] theorem Aw_:(Glob.laid 1:Option (List D))=some [.v (.int .i64 (-1099511627776)),.v (.int .i64 1099511627776)]:=rfl
@[simp] theorem As_:(Glob.laid 5:Option (List D))=some [.v (.int .i64 0),.v (.int .i64 1099511627776)]:=rfl
@[simp] theorem Ax_:(Glob.laid 0:Option (List D))=some [.v (.int .i64 1),.v (.int .i64 9999)]:=rfl
@[simp] theorem Au_:(Glob.laid 3:Option (List D))=some [.v (.int .i64 0),.v (.int .i64 39)]:=rfl
@[simp] theorem At_:(Glob.laid 4:Option (List D))=some [.v (.int .i64 0),.v (.int .i64 255)]:=rfl
@[simp] theorem Av_:(Glob.laid 2:Option (List D))=some [.v (.int .i64 0),.v (.int .i64 1048576)]:=rfl
@[simp] theorem Ar_:(Glob.laid 6:Option (List D))=some [.v (.int .i64 0),.v (.int .i64 255)]:=rfl
@[simp] theorem Aq_:(Glob.laid 7:Option (List D))=some [.v (.int .i64 1),.v (.int .i64 1048576)]:=rfl
@[simp] theorem Ao_:(Glob.laid 9:Option (List D))=some [.v (.int .i64 0),.v (.int .i64 31)]:=rfl
@[simp] theorem Ac_:(Glob.laid 10:Option (List D))=some [.v (.int .i64 1),.v (.int .i64 1048576)]:=rfl
@[simp] theorem Ap_:(Glob.laid 8:Option (List D))=some [.v (.int .i64 0),.v (.int .i64 1)]:=rfl
end Go.Proofs.YtfgcgagcpnbgmaaGreatDoor
namespace Go.Proofs.YtfgcgagcpnbgmaaGreatDoor
open Go.Xe
/-- Of two claims the first by the usual means. -/
theorem aI {p q:Prop} (hq:q) (hp:p:=by first|rfl|omega|decide|(simp;done)|(simp;omega)|(intro _ h;exact fcs_side h;done)|(intros;simp_all;done)|(intros;simp_all;omega)):p∧q:=⟨hp,hq⟩
/-- One step into a code of a told form. -/
class Gn (P:Program) (ds:Dn) (pn:Pn) (c:Code) (Q:Exit→St→Prop) (S:St) (G:outParam Prop):Prop where
 go:G→WP P ds pn c Q S
instance (P:Program) (ds:Dn) (pn:Pn) (Q:Exit→St→Prop) (S:St) (x y:Code):Gn P ds pn (.seq x y) Q S (WP P ds pn x (Dx_ P ds pn y Q) S):=⟨WP.seq⟩
instance (P:Program) (ds:Dn) (pn:Pn) (Q:Exit→St→Prop) (S:St) (id:Nat) (c:Code):Gn P ds pn (.block id c) Q S (WP P ds pn c (DR_ id Q) S):=⟨WP.block⟩
theorem wG {P:Program} {ds:Dn} {pn:Pn} {c:Code} {Q:Exit→St→Prop} {S:St} {G:Prop} [i:Gn P ds pn c Q S G] (g:G):WP P ds pn c Q S:=i.go g
theorem wR {ds:Dn} {pn:Pn} {Q:Exit→St→Prop} {S:St} {id:Nat} {l:List Oper} {b:Bool} (h:vcOps Tryz.prog ds pn ak_ (l.map (·.dst)) (fun tis S'=>(b=true→bY_ S (tis.flatMap fun t=>t.e.add))∧(b=true→gF_ (pn.zs.map (·.1)) (l.map (·.dst)) l (tis.map TI.ts)=true)∧Q .normal S') l S []):WP Tryz.prog ds pn (.region id l.toArray b) Q S:=by
 cases b with
 | false =>
  refine WP.region ac_ ?_
  have e:(fun (tis:List TI) (S':St)=>(false=true→bY_ S (tis.flatMap fun t=>t.e.add))∧(false=true→gF_ (pn.zs.map (·.1)) (l.map (·.dst)) l (tis.map TI.ts)=true)∧Q .normal S')=fun _ S'=>Q .normal S':=by funext tis S';simp
  rwa[e] at h
 | true =>
  refine i5_ ac_ dg_ ?_
  have e:(fun (tis:List TI) (S':St)=>(true=true→bY_ S (tis.flatMap fun t=>t.e.add))∧(true=true→gF_ (pn.zs.map (·.1)) (l.map (·.dst)) l (tis.map TI.ts)=true)∧Q .normal S')=fun tis S'=>bY_ S (tis.flatMap fun t=>t.e.add)∧gF_ (pn.zs.map (·.1)) (l.map (·.dst)) l (tis.map TI.ts)=true∧Q .normal S':=by funext tis S';simp
  rwa[e] at h
theorem cF {ds:Dn} {pn:Pn} {Q:Exit→St→Prop} {S:St} {o:Operand} {x y:Code} (he:S.ev o=.d (.v (.bool false))) (h:WP Tryz.prog ds pn y Q S):WP Tryz.prog ds pn (.cond o x y) Q S:=WP.cond (b:=false) he (fun h=>by cases h) (fun _=>h)
theorem cT {ds:Dn} {pn:Pn} {Q:Exit→St→Prop} {S:St} {o:Operand} {x y:Code} (he:S.ev o=.d (.v (.bool true))) (h:WP Tryz.prog ds pn x Q S):WP Tryz.prog ds pn (.cond o x y) Q S:=WP.cond (b:=true) he (fun _=>h) (fun h=>by cases h)
structure HqK (q:Prop):Prop where
 out:q
theorem sG {p q:Prop} (h:q) (e:HqK q→p:=by intro h;(repeat(first|apply wG|(apply wR;simp -dsimp)|refine aI ?_));exact h.out):p:=e ⟨h⟩
end Go.Proofs.YtfgcgagcpnbgmaaGreatDoor
