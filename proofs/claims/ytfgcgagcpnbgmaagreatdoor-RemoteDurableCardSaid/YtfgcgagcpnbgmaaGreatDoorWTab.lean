/-
  The types of the seat, for the engine. Printed by seatgen.py.
-/
import Derived.Test.YtfgcgagcpnbgmaaGreatDoorRows
import Derived.Test.YtfgcgagcpnbgmaaGreatDoorW3
set_option linter.unusedVariables false
set_option linter.unusedSimpArgs false
set_option linter.unusedSectionVars false
namespace Go.Proofs.YtfgcgagcpnbgmaaGreatDoor
open Go.Xe
def iZ:Value:=.int .i64 0
@[simp] theorem iZe:iZ=.int .i64 0:=rfl
def uZ:Value:=.int .u8 0
@[simp] theorem uZe:uZ=.int .u8 0:=rfl
def bZ:Value:=.bool false
@[simp] theorem bZe:bZ=.bool false:=rfl
def nZ:Value:=.slice none 0 0
@[simp] theorem nZe:nZ=.slice none 0 0:=rfl
def sZ:Value:=.string { data := #[] }
@[simp] theorem sZe:sZ=.string { data := #[] }:=rfl
def wZ:Value:=.int .u32 0
@[simp] theorem wZe:wZ=.int .u32 0:=rfl
abbrev tF:Option TE:=some ⟨.func,1,8,[.nilFunc]⟩
def ij_:List (Option TE):=[
 none,
 tF,
 some ⟨.int .i64,1,8,[iZ]⟩,
 some ⟨.int .i64,1,8,[iZ]⟩,
 some ⟨.bool,1,1,[bZ]⟩,
 some ⟨.int .u8,1,1,[uZ]⟩,
 some ⟨.int .u8,1,1,[uZ]⟩,
 none,
 some ⟨.struct [(0,2),(1,3),(2,4),(3,6)],4,24,[iZ,iZ,bZ,uZ]⟩,
 some ⟨.string,1,16,[sZ]⟩,
 some ⟨.string,1,16,[sZ]⟩,
 none,
 none,
 none,
 none,
 none,
 some ⟨.ptr 352,1,8,[.pointer none]⟩,
 none,
 none,
 none,
 some ⟨.iface,1,16,[.nilIface]⟩,
 none,
 some ⟨.slice 5,1,24,[nZ]⟩,
 none,
 some ⟨.struct [(0,22),(1,3),(2,3)],3,40,[nZ,iZ,iZ]⟩,
 some ⟨.slice 22,1,24,[nZ]⟩,
 some ⟨.slice 147,1,24,[nZ]⟩,
 none,
 some ⟨.struct [(0,25),(1,26),(2,3),(3,4)],4,64,[nZ,nZ,iZ,bZ]⟩,
 none,
 some ⟨.struct [(0,3),(1,25),(2,3)],3,40,[iZ,nZ,iZ]⟩,
 some ⟨.slice 82,1,24,[nZ]⟩,
 some ⟨.struct [(0,3),(1,24),(4,28),(8,30),(11,31),(12,3)],13,184,[iZ,nZ,iZ,iZ,nZ,nZ,iZ,bZ,iZ,nZ,iZ,nZ,iZ]⟩,
 some ⟨.struct [(0,3),(1,24),(4,28),(8,30),(11,31),(12,3)],13,184,[iZ,nZ,iZ,iZ,nZ,nZ,iZ,bZ,iZ,nZ,iZ,nZ,iZ]⟩,
 tF,
 none,
 some ⟨.int .i64,1,8,[iZ]⟩,
 none,
 none,
 none,
 none,
 none,
 some ⟨.struct [(0,3),(1,3),(2,3),(3,3),(4,3),(5,3),(6,3),(7,3)],8,64,[iZ,iZ,iZ,iZ,iZ,iZ,iZ,iZ]⟩,
 some ⟨.struct [(0,3),(1,3),(2,3),(3,3),(4,3),(5,3),(6,3),(7,3)],8,64,[iZ,iZ,iZ,iZ,iZ,iZ,iZ,iZ]⟩,
 none,
 some ⟨.struct [(0,3),(1,3),(2,3),(3,3)],4,32,[iZ,iZ,iZ,iZ]⟩,
 none,
 some ⟨.struct [(0,3),(1,3),(2,3),(3,3),(4,3)],5,40,[iZ,iZ,iZ,iZ,iZ]⟩,
 none,
 some ⟨.struct [(0,3),(1,3),(2,3),(3,3),(4,3),(5,3),(6,3),(7,3)],8,64,[iZ,iZ,iZ,iZ,iZ,iZ,iZ,iZ]⟩,
 none,
 some ⟨.struct [(0,3),(1,3),(2,3),(3,3)],4,32,[iZ,iZ,iZ,iZ]⟩,
 none,
 some ⟨.struct [(0,3),(1,3),(2,3),(3,3)],4,32,[iZ,iZ,iZ,iZ]⟩,
 none,
 some ⟨.struct [(0,3),(1,3)],2,16,[iZ,iZ]⟩,
 none,
 some ⟨.struct [(0,3),(1,3),(2,3),(3,3)],4,32,[iZ,iZ,iZ,iZ]⟩,
 none,
 some ⟨.struct [(0,3),(1,3),(2,3),(3,3)],4,32,[iZ,iZ,iZ,iZ]⟩,
 none,
 some ⟨.struct [(0,3),(1,3),(2,3),(3,3),(4,3),(5,3)],6,48,[iZ,iZ,iZ,iZ,iZ,iZ]⟩,
 none,
 some ⟨.struct [(0,3),(1,4)],2,16,[iZ,bZ]⟩,
 some ⟨.struct [(0,3),(1,3)],2,16,[iZ,iZ]⟩,
 some ⟨.struct [(0,3),(1,3)],2,16,[iZ,iZ]⟩,
 none,
 some ⟨.struct [(0,3),(1,3),(2,3),(3,3),(4,43),(12,45),(16,47),(21,49),(29,51),(33,53),(37,55),(39,57),(43,59),(47,61),(53,63),(55,65)],57,456,[iZ,iZ,iZ,iZ,iZ,iZ,iZ,iZ,iZ,iZ,iZ,iZ,iZ,iZ,iZ,iZ,iZ,iZ,iZ,iZ,iZ,iZ,iZ,iZ,iZ,iZ,iZ,iZ,iZ,iZ,iZ,iZ,iZ,iZ,iZ,iZ,iZ,iZ,iZ,iZ,iZ,iZ,iZ,iZ,iZ,iZ,iZ,iZ,iZ,iZ,iZ,iZ,iZ,iZ,bZ,iZ,iZ]⟩,
 none,
 none,
 none,
 none,
 none,
 none,
 none,
 none,
 none,
 some ⟨.int .u64,1,8,[.int .u64 0]⟩,
 some ⟨.slice 87,1,24,[nZ]⟩,
 none,
 some ⟨.struct [(0,3),(1,78),(2,78),(3,78)],4,80,[iZ,nZ,nZ,nZ]⟩,
 none,
 some ⟨.struct [(0,67),(57,80)],61,536,[iZ,iZ,iZ,iZ,iZ,iZ,iZ,iZ,iZ,iZ,iZ,iZ,iZ,iZ,iZ,iZ,iZ,iZ,iZ,iZ,iZ,iZ,iZ,iZ,iZ,iZ,iZ,iZ,iZ,iZ,iZ,iZ,iZ,iZ,iZ,iZ,iZ,iZ,iZ,iZ,iZ,iZ,iZ,iZ,iZ,iZ,iZ,iZ,iZ,iZ,iZ,iZ,iZ,iZ,bZ,iZ,iZ,iZ,nZ,nZ,nZ]⟩,
 none,
 tF,
 none,
 none,
 some ⟨.array 32 5,32,32,[uZ,uZ,uZ,uZ,uZ,uZ,uZ,uZ,uZ,uZ,uZ,uZ,uZ,uZ,uZ,uZ,uZ,uZ,uZ,uZ,uZ,uZ,uZ,uZ,uZ,uZ,uZ,uZ,uZ,uZ,uZ,uZ]⟩,
 none,
 none,
 some ⟨.slice 92,1,24,[nZ]⟩,
 none,
 some ⟨.struct [(0,87),(32,3)],33,40,[uZ,uZ,uZ,uZ,uZ,uZ,uZ,uZ,uZ,uZ,uZ,uZ,uZ,uZ,uZ,uZ,uZ,uZ,uZ,uZ,uZ,uZ,uZ,uZ,uZ,uZ,uZ,uZ,uZ,uZ,uZ,uZ,iZ]⟩,
 none,
 some ⟨.slice 98,1,24,[nZ]⟩,
 none,
 some ⟨.slice 67,1,24,[nZ]⟩,
 none,
 some ⟨.struct [(0,67),(57,4),(58,4),(59,5)],60,464,[iZ,iZ,iZ,iZ,iZ,iZ,iZ,iZ,iZ,iZ,iZ,iZ,iZ,iZ,iZ,iZ,iZ,iZ,iZ,iZ,iZ,iZ,iZ,iZ,iZ,iZ,iZ,iZ,iZ,iZ,iZ,iZ,iZ,iZ,iZ,iZ,iZ,iZ,iZ,iZ,iZ,iZ,iZ,iZ,iZ,iZ,iZ,iZ,iZ,iZ,iZ,iZ,iZ,iZ,bZ,iZ,iZ,bZ,bZ,uZ]⟩,
 none,
 none,
 none,
 some ⟨.slice 145,1,24,[nZ]⟩,
 none,
 none,
 none,
 none,
 none,
 none,
 none,
 none,
 none,
 none,
 none,
 none,
 some ⟨.struct [(0,33)],13,184,[iZ,nZ,iZ,iZ,nZ,nZ,iZ,bZ,iZ,nZ,iZ,nZ,iZ]⟩,
 some ⟨.array 5 34,5,40,[.nilFunc,.nilFunc,.nilFunc,.nilFunc,.nilFunc]⟩,
 none,
 none,
 none,
 tF,
 none,
 none,
 none,
 none,
 none,
 none,
 none,
 tF,
 none,
 none,
 none,
 none,
 none,
 none,
 none,
 none,
 none,
 none,
 some ⟨.map 198 31,1,8,[.map none]⟩,
 tF,
 tF,
 tF,
 none,
 none,
 some ⟨.struct [(0,82),(61,82)],122,1072,[iZ,iZ,iZ,iZ,iZ,iZ,iZ,iZ,iZ,iZ,iZ,iZ,iZ,iZ,iZ,iZ,iZ,iZ,iZ,iZ,iZ,iZ,iZ,iZ,iZ,iZ,iZ,iZ,iZ,iZ,iZ,iZ,iZ,iZ,iZ,iZ,iZ,iZ,iZ,iZ,iZ,iZ,iZ,iZ,iZ,iZ,iZ,iZ,iZ,iZ,iZ,iZ,iZ,iZ,bZ,iZ,iZ,iZ,nZ,nZ,nZ,iZ,iZ,iZ,iZ,iZ,iZ,iZ,iZ,iZ,iZ,iZ,iZ,iZ,iZ,iZ,iZ,iZ,iZ,iZ,iZ,iZ,iZ,iZ,iZ,iZ,iZ,iZ,iZ,iZ,iZ,iZ,iZ,iZ,iZ,iZ,iZ,iZ,iZ,iZ,iZ,iZ,iZ,iZ,iZ,iZ,iZ,iZ,iZ,iZ,iZ,iZ,iZ,iZ,iZ,bZ,iZ,iZ,iZ,nZ,nZ,nZ]⟩,
 none,
 some ⟨.struct [(0,3),(1,22)],2,32,[iZ,nZ]⟩,
 none,
 none,
 tF,
 tF,
 none,
 none,
 none,
 tF,
 none,
 none,
 none,
 none,
 none,
 some ⟨.slice 3,1,24,[nZ]⟩,
 none,
 none,
 some ⟨.slice 166,1,24,[nZ]⟩,
 none,
 some ⟨.struct [(0,3),(1,3),(2,9),(3,164)],4,56,[iZ,iZ,sZ,nZ]⟩,
 none,
 none,
 none,
 none,
 none,
 some ⟨.int .u64,1,8,[.int .u64 0]⟩,
 none,
 none,
 none,
 none,
 none,
 none,
 none,
 none,
 none,
 none,
 none,
 none,
 none,
 none,
 none,
 tF,
 none,
 some ⟨.struct [(0,22),(1,3)],2,32,[nZ,iZ]⟩,
 none,
 tF,
 none,
 some ⟨.array 64 4,64,64,[bZ,bZ,bZ,bZ,bZ,bZ,bZ,bZ,bZ,bZ,bZ,bZ,bZ,bZ,bZ,bZ,bZ,bZ,bZ,bZ,bZ,bZ,bZ,bZ,bZ,bZ,bZ,bZ,bZ,bZ,bZ,bZ,bZ,bZ,bZ,bZ,bZ,bZ,bZ,bZ,bZ,bZ,bZ,bZ,bZ,bZ,bZ,bZ,bZ,bZ,bZ,bZ,bZ,bZ,bZ,bZ,bZ,bZ,bZ,bZ,bZ,bZ,bZ,bZ]⟩,
 none,
 none,
 none,
 some ⟨.struct [(0,3),(1,3)],2,16,[iZ,iZ]⟩,
 none,
 none,
 none,
 tF,
 tF,
 none,
 tF,
 some ⟨.slice 198,1,24,[nZ]⟩,
 none,
 tF,
 none,
 none,
 none,
 tF,
 tF,
 none,
 none,
 tF,
 none,
 none,
 none,
 none,
 none,
 none,
 none,
 none,
 none,
 some ⟨.slice 238,1,24,[nZ]⟩,
 none,
 some ⟨.struct [(0,226),(1,34)],2,32,[nZ,.nilFunc]⟩,
 none,
 none,
 some ⟨.ptr 67,1,8,[.pointer none]⟩,
 some ⟨.ptr 3,1,8,[.pointer none]⟩,
 none,
 tF,
 none,
 some ⟨.struct [(0,3),(1,3)],2,16,[iZ,iZ]⟩,
 none,
 some ⟨.struct [(0,232),(1,236)],3,24,[.pointer none,iZ,iZ]⟩,
 none,
 tF,
 none,
 some ⟨.struct [(0,240)],1,8,[.nilFunc]⟩,
 some ⟨.ptr 293,1,8,[.pointer none]⟩,
 none,
 none,
 none,
 some ⟨.array 128 5,128,128,[uZ,uZ,uZ,uZ,uZ,uZ,uZ,uZ,uZ,uZ,uZ,uZ,uZ,uZ,uZ,uZ,uZ,uZ,uZ,uZ,uZ,uZ,uZ,uZ,uZ,uZ,uZ,uZ,uZ,uZ,uZ,uZ,uZ,uZ,uZ,uZ,uZ,uZ,uZ,uZ,uZ,uZ,uZ,uZ,uZ,uZ,uZ,uZ,uZ,uZ,uZ,uZ,uZ,uZ,uZ,uZ,uZ,uZ,uZ,uZ,uZ,uZ,uZ,uZ,uZ,uZ,uZ,uZ,uZ,uZ,uZ,uZ,uZ,uZ,uZ,uZ,uZ,uZ,uZ,uZ,uZ,uZ,uZ,uZ,uZ,uZ,uZ,uZ,uZ,uZ,uZ,uZ,uZ,uZ,uZ,uZ,uZ,uZ,uZ,uZ,uZ,uZ,uZ,uZ,uZ,uZ,uZ,uZ,uZ,uZ,uZ,uZ,uZ,uZ,uZ,uZ,uZ,uZ,uZ,uZ,uZ,uZ,uZ,uZ,uZ,uZ,uZ,uZ]⟩,
 none,
 some ⟨.int .u32,1,4,[wZ]⟩,
 none,
 none,
 none,
 none,
 none,
 some ⟨.slice 4,1,24,[nZ]⟩,
 none,
 none,
 none,
 none,
 tF,
 none,
 none,
 none,
 none,
 none,
 none,
 none,
 none,
 none,
 none,
 none,
 none,
 none,
 none,
 none,
 none,
 none,
 none,
 some ⟨.struct [(0,22),(1,3),(2,4)],3,40,[nZ,iZ,bZ]⟩,
 none,
 some ⟨.ptr 43,1,8,[.pointer none]⟩,
 some ⟨.ptr 45,1,8,[.pointer none]⟩,
 some ⟨.ptr 47,1,8,[.pointer none]⟩,
 some ⟨.ptr 49,1,8,[.pointer none]⟩,
 some ⟨.ptr 51,1,8,[.pointer none]⟩,
 some ⟨.ptr 53,1,8,[.pointer none]⟩,
 some ⟨.ptr 55,1,8,[.pointer none]⟩,
 some ⟨.ptr 57,1,8,[.pointer none]⟩,
 some ⟨.ptr 59,1,8,[.pointer none]⟩,
 some ⟨.ptr 61,1,8,[.pointer none]⟩,
 none,
 none,
 some ⟨.array 4 242,4,32,[.nilFunc,.nilFunc,.nilFunc,.nilFunc]⟩,
 none,
 none,
 none,
 none,
 none,
 none,
 none,
 none,
 none,
 some ⟨.ptr 305,1,8,[.pointer none]⟩,
 none,
 some ⟨.struct [(0,22)],1,24,[nZ]⟩,
 none,
 some ⟨.array 8 249,8,32,[wZ,wZ,wZ,wZ,wZ,wZ,wZ,wZ]⟩,
 none,
 some ⟨.ptr 307,1,8,[.pointer none]⟩,
 none,
 none,
 none,
 none,
 some ⟨.int .i64,1,8,[iZ]⟩,
 none,
 none,
 none,
 none,
 none,
 none,
 none,
 none,
 none,
 some ⟨.array 4 4,4,4,[bZ,bZ,bZ,bZ]⟩,
 none,
 some ⟨.array 16 249,16,64,[wZ,wZ,wZ,wZ,wZ,wZ,wZ,wZ,wZ,wZ,wZ,wZ,wZ,wZ,wZ,wZ]⟩,
 some ⟨.slice 249,1,24,[nZ]⟩,
 tF,
 some ⟨.array 16 5,16,16,[uZ,uZ,uZ,uZ,uZ,uZ,uZ,uZ,uZ,uZ,uZ,uZ,uZ,uZ,uZ,uZ]⟩,
 some ⟨.array 10 329,160,160,[uZ,uZ,uZ,uZ,uZ,uZ,uZ,uZ,uZ,uZ,uZ,uZ,uZ,uZ,uZ,uZ,uZ,uZ,uZ,uZ,uZ,uZ,uZ,uZ,uZ,uZ,uZ,uZ,uZ,uZ,uZ,uZ,uZ,uZ,uZ,uZ,uZ,uZ,uZ,uZ,uZ,uZ,uZ,uZ,uZ,uZ,uZ,uZ,uZ,uZ,uZ,uZ,uZ,uZ,uZ,uZ,uZ,uZ,uZ,uZ,uZ,uZ,uZ,uZ,uZ,uZ,uZ,uZ,uZ,uZ,uZ,uZ,uZ,uZ,uZ,uZ,uZ,uZ,uZ,uZ,uZ,uZ,uZ,uZ,uZ,uZ,uZ,uZ,uZ,uZ,uZ,uZ,uZ,uZ,uZ,uZ,uZ,uZ,uZ,uZ,uZ,uZ,uZ,uZ,uZ,uZ,uZ,uZ,uZ,uZ,uZ,uZ,uZ,uZ,uZ,uZ,uZ,uZ,uZ,uZ,uZ,uZ,uZ,uZ,uZ,uZ,uZ,uZ,uZ,uZ,uZ,uZ,uZ,uZ,uZ,uZ,uZ,uZ,uZ,uZ,uZ,uZ,uZ,uZ,uZ,uZ,uZ,uZ,uZ,uZ,uZ,uZ,uZ,uZ,uZ,uZ,uZ,uZ,uZ,uZ]⟩,
 none,
 some ⟨.int .u64,1,8,[.int .u64 0]⟩,
 none,
 none,
 none,
 none,
 none,
 none,
 none,
 none,
 none,
 some ⟨.ptr 326,1,8,[.pointer none]⟩,
 none,
 some ⟨.ptr 332,1,8,[.pointer none]⟩,
 none,
 none,
 none,
 none,
 none,
 some ⟨.array 0 16,0,0,[]⟩,
 none,
 some ⟨.struct [(0,350)],0,0,[]⟩,
 none,
 none,
 none,
 none,
 none,
 none,
 none,
 none]
def ag_:Tab:=fun T=>ij_[T]?.bind id
def AllOk (P:Program):Nat→List (Option TE)→Prop
 | _,[]=>True
 | n,none::l=>AllOk P (n+1) l
 | n,some e::l=>TyOk P n e∧AllOk P (n+1) l
theorem AllOk.at {P:Program}:∀ (l:List (Option TE)) (n i:Nat) (e:TE),AllOk P n l→l[i]? = some (some e)→TyOk P (n+i) e
 | [],_,_,_,_,h=>by simp at h
 | none::l,n,0,_,_,h=>by simp at h
 | none::l,n,i+1,e,h,hi=>by have:=AllOk.at l (n+1) i e h (by simpa using hi);rwa[Nat.add_assoc,Nat.add_comm 1 i] at this
 | some d::l,n,0,e,h,hi=>by simp at hi;subst hi;exact h.1
 | some d::l,n,i+1,e,h,hi=>by have:=AllOk.at l (n+1) i e h.2 (by simpa using hi);rwa[Nat.add_assoc,Nat.add_comm 1 i] at this
@[simp] theorem DO_:ag_ 1=some ⟨.func,1,8,[.nilFunc]⟩:=rfl
@[simp] theorem DN_:ag_ 2=some ⟨.int .i64,1,8,[iZ]⟩:=rfl
@[simp] theorem DM_:ag_ 3=some ⟨.int .i64,1,8,[iZ]⟩:=rfl
@[simp] theorem yk_:ag_ 4=some ⟨.bool,1,1,[bZ]⟩:=rfl
@[simp] theorem tL_:ag_ 5=some ⟨.int .u8,1,1,[uZ]⟩:=rfl
@[simp] theorem DL_:ag_ 6=some ⟨.int .u8,1,1,[uZ]⟩:=rfl
@[simp] theorem DK_:ag_ 8=some ⟨.struct [(0,2),(1,3),(2,4),(3,6)],4,24,[iZ,iZ,bZ,uZ]⟩:=rfl
@[simp] theorem DJ_:ag_ 9=some ⟨.string,1,16,[sZ]⟩:=rfl
@[simp] theorem CK_:ag_ 10=some ⟨.string,1,16,[sZ]⟩:=rfl
@[simp] theorem CJ_:ag_ 16=some ⟨.ptr 352,1,8,[.pointer none]⟩:=rfl
@[simp] theorem CI_:ag_ 20=some ⟨.iface,1,16,[.nilIface]⟩:=rfl
@[simp] theorem CH_:ag_ 22=some ⟨.slice 5,1,24,[nZ]⟩:=rfl
@[simp] theorem CG_:ag_ 24=some ⟨.struct [(0,22),(1,3),(2,3)],3,40,[nZ,iZ,iZ]⟩:=rfl
@[simp] theorem CF_:ag_ 25=some ⟨.slice 22,1,24,[nZ]⟩:=rfl
@[simp] theorem CE_:ag_ 26=some ⟨.slice 147,1,24,[nZ]⟩:=rfl
@[simp] theorem CD_:ag_ 28=some ⟨.struct [(0,25),(1,26),(2,3),(3,4)],4,64,[nZ,nZ,iZ,bZ]⟩:=rfl
@[simp] theorem CC_:ag_ 30=some ⟨.struct [(0,3),(1,25),(2,3)],3,40,[iZ,nZ,iZ]⟩:=rfl
@[simp] theorem CB_:ag_ 31=some ⟨.slice 82,1,24,[nZ]⟩:=rfl
@[simp] theorem CA_:ag_ 32=some ⟨.struct [(0,3),(1,24),(4,28),(8,30),(11,31),(12,3)],13,184,[iZ,nZ,iZ,iZ,nZ,nZ,iZ,bZ,iZ,nZ,iZ,nZ,iZ]⟩:=rfl
@[simp] theorem Cz_:ag_ 33=some ⟨.struct [(0,3),(1,24),(4,28),(8,30),(11,31),(12,3)],13,184,[iZ,nZ,iZ,iZ,nZ,nZ,iZ,bZ,iZ,nZ,iZ,nZ,iZ]⟩:=rfl
@[simp] theorem Cy_:ag_ 34=some ⟨.func,1,8,[.nilFunc]⟩:=rfl
@[simp] theorem Cx_:ag_ 36=some ⟨.int .i64,1,8,[iZ]⟩:=rfl
@[simp] theorem Cw_:ag_ 42=some ⟨.struct [(0,3),(1,3),(2,3),(3,3),(4,3),(5,3),(6,3),(7,3)],8,64,[iZ,iZ,iZ,iZ,iZ,iZ,iZ,iZ]⟩:=rfl
@[simp] theorem Cv_:ag_ 43=some ⟨.struct [(0,3),(1,3),(2,3),(3,3),(4,3),(5,3),(6,3),(7,3)],8,64,[iZ,iZ,iZ,iZ,iZ,iZ,iZ,iZ]⟩:=rfl
@[simp] theorem Cu_:ag_ 45=some ⟨.struct [(0,3),(1,3),(2,3),(3,3)],4,32,[iZ,iZ,iZ,iZ]⟩:=rfl
@[simp] theorem Ct_:ag_ 47=some ⟨.struct [(0,3),(1,3),(2,3),(3,3),(4,3)],5,40,[iZ,iZ,iZ,iZ,iZ]⟩:=rfl
@[simp] theorem Cs_:ag_ 49=some ⟨.struct [(0,3),(1,3),(2,3),(3,3),(4,3),(5,3),(6,3),(7,3)],8,64,[iZ,iZ,iZ,iZ,iZ,iZ,iZ,iZ]⟩:=rfl
@[simp] theorem Cr_:ag_ 51=some ⟨.struct [(0,3),(1,3),(2,3),(3,3)],4,32,[iZ,iZ,iZ,iZ]⟩:=rfl
@[simp] theorem Cq_:ag_ 53=some ⟨.struct [(0,3),(1,3),(2,3),(3,3)],4,32,[iZ,iZ,iZ,iZ]⟩:=rfl
@[simp] theorem Cp_:ag_ 55=some ⟨.struct [(0,3),(1,3)],2,16,[iZ,iZ]⟩:=rfl
@[simp] theorem Co_:ag_ 57=some ⟨.struct [(0,3),(1,3),(2,3),(3,3)],4,32,[iZ,iZ,iZ,iZ]⟩:=rfl
@[simp] theorem Cn_:ag_ 59=some ⟨.struct [(0,3),(1,3),(2,3),(3,3)],4,32,[iZ,iZ,iZ,iZ]⟩:=rfl
@[simp] theorem Cm_:ag_ 61=some ⟨.struct [(0,3),(1,3),(2,3),(3,3),(4,3),(5,3)],6,48,[iZ,iZ,iZ,iZ,iZ,iZ]⟩:=rfl
@[simp] theorem Cl_:ag_ 63=some ⟨.struct [(0,3),(1,4)],2,16,[iZ,bZ]⟩:=rfl
@[simp] theorem Ck_:ag_ 64=some ⟨.struct [(0,3),(1,3)],2,16,[iZ,iZ]⟩:=rfl
@[simp] theorem Cj_:ag_ 65=some ⟨.struct [(0,3),(1,3)],2,16,[iZ,iZ]⟩:=rfl
@[simp] theorem Ci_:ag_ 67=some ⟨.struct [(0,3),(1,3),(2,3),(3,3),(4,43),(12,45),(16,47),(21,49),(29,51),(33,53),(37,55),(39,57),(43,59),(47,61),(53,63),(55,65)],57,456,[iZ,iZ,iZ,iZ,iZ,iZ,iZ,iZ,iZ,iZ,iZ,iZ,iZ,iZ,iZ,iZ,iZ,iZ,iZ,iZ,iZ,iZ,iZ,iZ,iZ,iZ,iZ,iZ,iZ,iZ,iZ,iZ,iZ,iZ,iZ,iZ,iZ,iZ,iZ,iZ,iZ,iZ,iZ,iZ,iZ,iZ,iZ,iZ,iZ,iZ,iZ,iZ,iZ,iZ,bZ,iZ,iZ]⟩:=rfl
@[simp] theorem Ch_:ag_ 77=some ⟨.int .u64,1,8,[.int .u64 0]⟩:=rfl
@[simp] theorem Cg_:ag_ 78=some ⟨.slice 87,1,24,[nZ]⟩:=rfl
@[simp] theorem Cf_:ag_ 80=some ⟨.struct [(0,3),(1,78),(2,78),(3,78)],4,80,[iZ,nZ,nZ,nZ]⟩:=rfl
@[simp] theorem Ce_:ag_ 82=some ⟨.struct [(0,67),(57,80)],61,536,[iZ,iZ,iZ,iZ,iZ,iZ,iZ,iZ,iZ,iZ,iZ,iZ,iZ,iZ,iZ,iZ,iZ,iZ,iZ,iZ,iZ,iZ,iZ,iZ,iZ,iZ,iZ,iZ,iZ,iZ,iZ,iZ,iZ,iZ,iZ,iZ,iZ,iZ,iZ,iZ,iZ,iZ,iZ,iZ,iZ,iZ,iZ,iZ,iZ,iZ,iZ,iZ,iZ,iZ,bZ,iZ,iZ,iZ,nZ,nZ,nZ]⟩:=rfl
@[simp] theorem Cd_:ag_ 84=some ⟨.func,1,8,[.nilFunc]⟩:=rfl
@[simp] theorem kR_:ag_ 87=some ⟨.array 32 5,32,32,[uZ,uZ,uZ,uZ,uZ,uZ,uZ,uZ,uZ,uZ,uZ,uZ,uZ,uZ,uZ,uZ,uZ,uZ,uZ,uZ,uZ,uZ,uZ,uZ,uZ,uZ,uZ,uZ,uZ,uZ,uZ,uZ]⟩:=rfl
@[simp] theorem Cc_:ag_ 90=some ⟨.slice 92,1,24,[nZ]⟩:=rfl
@[simp] theorem Cb_:ag_ 92=some ⟨.struct [(0,87),(32,3)],33,40,[uZ,uZ,uZ,uZ,uZ,uZ,uZ,uZ,uZ,uZ,uZ,uZ,uZ,uZ,uZ,uZ,uZ,uZ,uZ,uZ,uZ,uZ,uZ,uZ,uZ,uZ,uZ,uZ,uZ,uZ,uZ,uZ,iZ]⟩:=rfl
@[simp] theorem vQ_:ag_ 94=some ⟨.slice 98,1,24,[nZ]⟩:=rfl
@[simp] theorem Ca_:ag_ 96=some ⟨.slice 67,1,24,[nZ]⟩:=rfl
@[simp] theorem vP_:ag_ 98=some ⟨.struct [(0,67),(57,4),(58,4),(59,5)],60,464,[iZ,iZ,iZ,iZ,iZ,iZ,iZ,iZ,iZ,iZ,iZ,iZ,iZ,iZ,iZ,iZ,iZ,iZ,iZ,iZ,iZ,iZ,iZ,iZ,iZ,iZ,iZ,iZ,iZ,iZ,iZ,iZ,iZ,iZ,iZ,iZ,iZ,iZ,iZ,iZ,iZ,iZ,iZ,iZ,iZ,iZ,iZ,iZ,iZ,iZ,iZ,iZ,iZ,iZ,bZ,iZ,iZ,bZ,bZ,uZ]⟩:=rfl
@[simp] theorem Bx_:ag_ 102=some ⟨.slice 145,1,24,[nZ]⟩:=rfl
@[simp] theorem Bw_:ag_ 115=some ⟨.struct [(0,33)],13,184,[iZ,nZ,iZ,iZ,nZ,nZ,iZ,bZ,iZ,nZ,iZ,nZ,iZ]⟩:=rfl
@[simp] theorem Bv_:ag_ 116=some ⟨.array 5 34,5,40,[.nilFunc,.nilFunc,.nilFunc,.nilFunc,.nilFunc]⟩:=rfl
@[simp] theorem Bu_:ag_ 120=some ⟨.func,1,8,[.nilFunc]⟩:=rfl
@[simp] theorem Bt_:ag_ 128=some ⟨.func,1,8,[.nilFunc]⟩:=rfl
@[simp] theorem Bs_:ag_ 139=some ⟨.map 198 31,1,8,[.map none]⟩:=rfl
@[simp] theorem Br_:ag_ 140=some ⟨.func,1,8,[.nilFunc]⟩:=rfl
@[simp] theorem Bq_:ag_ 141=some ⟨.func,1,8,[.nilFunc]⟩:=rfl
@[simp] theorem Bp_:ag_ 142=some ⟨.func,1,8,[.nilFunc]⟩:=rfl
@[simp] theorem Bo_:ag_ 145=some ⟨.struct [(0,82),(61,82)],122,1072,[iZ,iZ,iZ,iZ,iZ,iZ,iZ,iZ,iZ,iZ,iZ,iZ,iZ,iZ,iZ,iZ,iZ,iZ,iZ,iZ,iZ,iZ,iZ,iZ,iZ,iZ,iZ,iZ,iZ,iZ,iZ,iZ,iZ,iZ,iZ,iZ,iZ,iZ,iZ,iZ,iZ,iZ,iZ,iZ,iZ,iZ,iZ,iZ,iZ,iZ,iZ,iZ,iZ,iZ,bZ,iZ,iZ,iZ,nZ,nZ,nZ,iZ,iZ,iZ,iZ,iZ,iZ,iZ,iZ,iZ,iZ,iZ,iZ,iZ,iZ,iZ,iZ,iZ,iZ,iZ,iZ,iZ,iZ,iZ,iZ,iZ,iZ,iZ,iZ,iZ,iZ,iZ,iZ,iZ,iZ,iZ,iZ,iZ,iZ,iZ,iZ,iZ,iZ,iZ,iZ,iZ,iZ,iZ,iZ,iZ,iZ,iZ,iZ,iZ,iZ,bZ,iZ,iZ,iZ,nZ,nZ,nZ]⟩:=rfl
@[simp] theorem Bn_:ag_ 147=some ⟨.struct [(0,3),(1,22)],2,32,[iZ,nZ]⟩:=rfl
@[simp] theorem Bm_:ag_ 150=some ⟨.func,1,8,[.nilFunc]⟩:=rfl
@[simp] theorem Bl_:ag_ 151=some ⟨.func,1,8,[.nilFunc]⟩:=rfl
@[simp] theorem Bk_:ag_ 155=some ⟨.func,1,8,[.nilFunc]⟩:=rfl
@[simp] theorem Bj_:ag_ 161=some ⟨.slice 3,1,24,[nZ]⟩:=rfl
@[simp] theorem Bi_:ag_ 164=some ⟨.slice 166,1,24,[nZ]⟩:=rfl
@[simp] theorem Bh_:ag_ 166=some ⟨.struct [(0,3),(1,3),(2,9),(3,164)],4,56,[iZ,iZ,sZ,nZ]⟩:=rfl
@[simp] theorem Bg_:ag_ 172=some ⟨.int .u64,1,8,[.int .u64 0]⟩:=rfl
@[simp] theorem Bf_:ag_ 188=some ⟨.func,1,8,[.nilFunc]⟩:=rfl
@[simp] theorem Be_:ag_ 190=some ⟨.struct [(0,22),(1,3)],2,32,[nZ,iZ]⟩:=rfl
@[simp] theorem Bd_:ag_ 192=some ⟨.func,1,8,[.nilFunc]⟩:=rfl
@[simp] theorem Bc_:ag_ 194=some ⟨.array 64 4,64,64,[bZ,bZ,bZ,bZ,bZ,bZ,bZ,bZ,bZ,bZ,bZ,bZ,bZ,bZ,bZ,bZ,bZ,bZ,bZ,bZ,bZ,bZ,bZ,bZ,bZ,bZ,bZ,bZ,bZ,bZ,bZ,bZ,bZ,bZ,bZ,bZ,bZ,bZ,bZ,bZ,bZ,bZ,bZ,bZ,bZ,bZ,bZ,bZ,bZ,bZ,bZ,bZ,bZ,bZ,bZ,bZ,bZ,bZ,bZ,bZ,bZ,bZ,bZ,bZ]⟩:=rfl
@[simp] theorem Bb_:ag_ 198=some ⟨.struct [(0,3),(1,3)],2,16,[iZ,iZ]⟩:=rfl
@[simp] theorem Ba_:ag_ 202=some ⟨.func,1,8,[.nilFunc]⟩:=rfl
@[simp] theorem A9_:ag_ 203=some ⟨.func,1,8,[.nilFunc]⟩:=rfl
@[simp] theorem A8_:ag_ 205=some ⟨.func,1,8,[.nilFunc]⟩:=rfl
@[simp] theorem A7_:ag_ 206=some ⟨.slice 198,1,24,[nZ]⟩:=rfl
@[simp] theorem A6_:ag_ 208=some ⟨.func,1,8,[.nilFunc]⟩:=rfl
@[simp] theorem A5_:ag_ 212=some ⟨.func,1,8,[.nilFunc]⟩:=rfl
@[simp] theorem A4_:ag_ 213=some ⟨.func,1,8,[.nilFunc]⟩:=rfl
@[simp] theorem A3_:ag_ 216=some ⟨.func,1,8,[.nilFunc]⟩:=rfl
@[simp] theorem A2_:ag_ 226=some ⟨.slice 238,1,24,[nZ]⟩:=rfl
@[simp] theorem A1_:ag_ 228=some ⟨.struct [(0,226),(1,34)],2,32,[nZ,.nilFunc]⟩:=rfl
@[simp] theorem A0_:ag_ 231=some ⟨.ptr 67,1,8,[.pointer none]⟩:=rfl
@[simp] theorem AZ_:ag_ 232=some ⟨.ptr 3,1,8,[.pointer none]⟩:=rfl
@[simp] theorem AY_:ag_ 234=some ⟨.func,1,8,[.nilFunc]⟩:=rfl
@[simp] theorem AX_:ag_ 236=some ⟨.struct [(0,3),(1,3)],2,16,[iZ,iZ]⟩:=rfl
@[simp] theorem AW_:ag_ 238=some ⟨.struct [(0,232),(1,236)],3,24,[.pointer none,iZ,iZ]⟩:=rfl
@[simp] theorem AV_:ag_ 240=some ⟨.func,1,8,[.nilFunc]⟩:=rfl
@[simp] theorem AU_:ag_ 242=some ⟨.struct [(0,240)],1,8,[.nilFunc]⟩:=rfl
@[simp] theorem AT_:ag_ 243=some ⟨.ptr 293,1,8,[.pointer none]⟩:=rfl
@[simp] theorem AS_:ag_ 247=some ⟨.array 128 5,128,128,[uZ,uZ,uZ,uZ,uZ,uZ,uZ,uZ,uZ,uZ,uZ,uZ,uZ,uZ,uZ,uZ,uZ,uZ,uZ,uZ,uZ,uZ,uZ,uZ,uZ,uZ,uZ,uZ,uZ,uZ,uZ,uZ,uZ,uZ,uZ,uZ,uZ,uZ,uZ,uZ,uZ,uZ,uZ,uZ,uZ,uZ,uZ,uZ,uZ,uZ,uZ,uZ,uZ,uZ,uZ,uZ,uZ,uZ,uZ,uZ,uZ,uZ,uZ,uZ,uZ,uZ,uZ,uZ,uZ,uZ,uZ,uZ,uZ,uZ,uZ,uZ,uZ,uZ,uZ,uZ,uZ,uZ,uZ,uZ,uZ,uZ,uZ,uZ,uZ,uZ,uZ,uZ,uZ,uZ,uZ,uZ,uZ,uZ,uZ,uZ,uZ,uZ,uZ,uZ,uZ,uZ,uZ,uZ,uZ,uZ,uZ,uZ,uZ,uZ,uZ,uZ,uZ,uZ,uZ,uZ,uZ,uZ,uZ,uZ,uZ,uZ,uZ,uZ]⟩:=rfl
@[simp] theorem AR_:ag_ 249=some ⟨.int .u32,1,4,[wZ]⟩:=rfl
@[simp] theorem AQ_:ag_ 255=some ⟨.slice 4,1,24,[nZ]⟩:=rfl
@[simp] theorem AP_:ag_ 260=some ⟨.func,1,8,[.nilFunc]⟩:=rfl
@[simp] theorem AO_:ag_ 279=some ⟨.struct [(0,22),(1,3),(2,4)],3,40,[nZ,iZ,bZ]⟩:=rfl
@[simp] theorem AN_:ag_ 281=some ⟨.ptr 43,1,8,[.pointer none]⟩:=rfl
@[simp] theorem AM_:ag_ 282=some ⟨.ptr 45,1,8,[.pointer none]⟩:=rfl
@[simp] theorem AL_:ag_ 283=some ⟨.ptr 47,1,8,[.pointer none]⟩:=rfl
@[simp] theorem AK_:ag_ 284=some ⟨.ptr 49,1,8,[.pointer none]⟩:=rfl
@[simp] theorem AJ_:ag_ 285=some ⟨.ptr 51,1,8,[.pointer none]⟩:=rfl
@[simp] theorem AI_:ag_ 286=some ⟨.ptr 53,1,8,[.pointer none]⟩:=rfl
@[simp] theorem AH_:ag_ 287=some ⟨.ptr 55,1,8,[.pointer none]⟩:=rfl
@[simp] theorem AG_:ag_ 288=some ⟨.ptr 57,1,8,[.pointer none]⟩:=rfl
@[simp] theorem AF_:ag_ 289=some ⟨.ptr 59,1,8,[.pointer none]⟩:=rfl
@[simp] theorem AE_:ag_ 290=some ⟨.ptr 61,1,8,[.pointer none]⟩:=rfl
@[simp] theorem AD_:ag_ 293=some ⟨.array 4 242,4,32,[.nilFunc,.nilFunc,.nilFunc,.nilFunc]⟩:=rfl
@[simp] theorem AC_:ag_ 303=some ⟨.ptr 305,1,8,[.pointer none]⟩:=rfl
@[simp] theorem AB_:ag_ 305=some ⟨.struct [(0,22)],1,24,[nZ]⟩:=rfl
@[simp] theorem AA_:ag_ 307=some ⟨.array 8 249,8,32,[wZ,wZ,wZ,wZ,wZ,wZ,wZ,wZ]⟩:=rfl
@[simp] theorem Az_:ag_ 309=some ⟨.ptr 307,1,8,[.pointer none]⟩:=rfl
@[simp] theorem Ay_:ag_ 314=some ⟨.int .i64,1,8,[iZ]⟩:=rfl
@[simp] theorem Ax_:ag_ 324=some ⟨.array 4 4,4,4,[bZ,bZ,bZ,bZ]⟩:=rfl
@[simp] theorem Aw_:ag_ 326=some ⟨.array 16 249,16,64,[wZ,wZ,wZ,wZ,wZ,wZ,wZ,wZ,wZ,wZ,wZ,wZ,wZ,wZ,wZ,wZ]⟩:=rfl
@[simp] theorem Av_:ag_ 327=some ⟨.slice 249,1,24,[nZ]⟩:=rfl
@[simp] theorem Au_:ag_ 328=some ⟨.func,1,8,[.nilFunc]⟩:=rfl
@[simp] theorem At_:ag_ 329=some ⟨.array 16 5,16,16,[uZ,uZ,uZ,uZ,uZ,uZ,uZ,uZ,uZ,uZ,uZ,uZ,uZ,uZ,uZ,uZ]⟩:=rfl
@[simp] theorem As_:ag_ 330=some ⟨.array 10 329,160,160,[uZ,uZ,uZ,uZ,uZ,uZ,uZ,uZ,uZ,uZ,uZ,uZ,uZ,uZ,uZ,uZ,uZ,uZ,uZ,uZ,uZ,uZ,uZ,uZ,uZ,uZ,uZ,uZ,uZ,uZ,uZ,uZ,uZ,uZ,uZ,uZ,uZ,uZ,uZ,uZ,uZ,uZ,uZ,uZ,uZ,uZ,uZ,uZ,uZ,uZ,uZ,uZ,uZ,uZ,uZ,uZ,uZ,uZ,uZ,uZ,uZ,uZ,uZ,uZ,uZ,uZ,uZ,uZ,uZ,uZ,uZ,uZ,uZ,uZ,uZ,uZ,uZ,uZ,uZ,uZ,uZ,uZ,uZ,uZ,uZ,uZ,uZ,uZ,uZ,uZ,uZ,uZ,uZ,uZ,uZ,uZ,uZ,uZ,uZ,uZ,uZ,uZ,uZ,uZ,uZ,uZ,uZ,uZ,uZ,uZ,uZ,uZ,uZ,uZ,uZ,uZ,uZ,uZ,uZ,uZ,uZ,uZ,uZ,uZ,uZ,uZ,uZ,uZ,uZ,uZ,uZ,uZ,uZ,uZ,uZ,uZ,uZ,uZ,uZ,uZ,uZ,uZ,uZ,uZ,uZ,uZ,uZ,uZ,uZ,uZ,uZ,uZ,uZ,uZ,uZ,uZ,uZ,uZ,uZ,uZ]⟩:=rfl
@[simp] theorem Ar_:ag_ 332=some ⟨.int .u64,1,8,[.int .u64 0]⟩:=rfl
@[simp] theorem Aq_:ag_ 342=some ⟨.ptr 326,1,8,[.pointer none]⟩:=rfl
@[simp] theorem Ap_:ag_ 344=some ⟨.ptr 332,1,8,[.pointer none]⟩:=rfl
@[simp] theorem Ao_:ag_ 350=some ⟨.array 0 16,0,0,[]⟩:=rfl
@[simp] theorem An_:ag_ 352=some ⟨.struct [(0,350)],0,0,[]⟩:=rfl
set_option maxRecDepth 100000 in
/-- A type's entry is right, by looking. -/
theorem tyS {P:Program} {T:Nat} {e:TE} (i:TypeInfo) {d:TypeDesc} (hu:P.underlying T=some d) (hk:e.k.ok d:=by first|rfl|exact⟨_,rfl,rfl⟩|exact⟨_,_,_,rfl⟩|exact⟨_,rfl⟩) (hi:P.info? T=some i:=by kernel_rfl)
  (h:∃ z,i.size=e.size∧i.bytes=e.bytes∧i.zero=some z∧z.cells.toList=e.zero∧e.zero.length=e.size∧e.zero.all (·.oneCell')=true:=by exact⟨_,rfl,rfl,rfl,rfl,rfl,rfl⟩):TyOk P T e:=⟨⟨i,h.choose,hi,h.choose_spec⟩,⟨d,hu,hk⟩⟩
set_option maxRecDepth 20000 in
theorem aa_:aq_ Tryz.prog ag_:=by
 intro T e h
 have hL:AllOk Tryz.prog 0 ij_:=by
  unfold ij_
  refine⟨tyS Tryz.t1 Tryz.underlying1,?_⟩
  refine⟨tyS Tryz.t2 Tryz.underlying2,?_⟩
  refine⟨tyS Tryz.t3 Tryz.underlying3,?_⟩
  refine⟨tyS Tryz.t4 Tryz.underlying4,?_⟩
  refine⟨tyS Tryz.t5 Tryz.underlying5,?_⟩
  refine⟨tyS Tryz.t6 Tryz.underlying6,?_⟩
  refine⟨tyS Tryz.t8 Tryz.underlying8,?_⟩
  refine⟨tyS Tryz.t9 Tryz.underlying9,?_⟩
  refine⟨tyS Tryz.t10 Tryz.underlying10,?_⟩
  refine⟨tyS Tryz.t16 Tryz.underlying16,?_⟩
  refine⟨tyS Tryz.t20 Tryz.underlying20,?_⟩
  refine⟨tyS Tryz.t22 Tryz.underlying22,?_⟩
  refine⟨tyS Tryz.t24 Tryz.underlying24,?_⟩
  refine⟨tyS Tryz.t25 Tryz.underlying25,?_⟩
  refine⟨tyS Tryz.t26 Tryz.underlying26,?_⟩
  refine⟨tyS Tryz.t28 Tryz.underlying28,?_⟩
  refine⟨tyS Tryz.t30 Tryz.underlying30,?_⟩
  refine⟨tyS Tryz.t31 Tryz.underlying31,?_⟩
  refine⟨tyS Tryz.t32 Tryz.underlying32,?_⟩
  refine⟨tyS Tryz.t33 Tryz.underlying33,?_⟩
  refine⟨tyS Tryz.t34 Tryz.underlying34,?_⟩
  refine⟨tyS Tryz.t36 Tryz.underlying36,?_⟩
  refine⟨tyS Tryz.t42 Tryz.underlying42,?_⟩
  refine⟨tyS Tryz.t43 Tryz.underlying43,?_⟩
  refine⟨tyS Tryz.t45 Tryz.underlying45,?_⟩
  refine⟨tyS Tryz.t47 Tryz.underlying47,?_⟩
  refine⟨tyS Tryz.t49 Tryz.underlying49,?_⟩
  refine⟨tyS Tryz.t51 Tryz.underlying51,?_⟩
  refine⟨tyS Tryz.t53 Tryz.underlying53,?_⟩
  refine⟨tyS Tryz.t55 Tryz.underlying55,?_⟩
  refine⟨tyS Tryz.t57 Tryz.underlying57,?_⟩
  refine⟨tyS Tryz.t59 Tryz.underlying59,?_⟩
  refine⟨tyS Tryz.t61 Tryz.underlying61,?_⟩
  refine⟨tyS Tryz.t63 Tryz.underlying63,?_⟩
  refine⟨tyS Tryz.t64 Tryz.underlying64,?_⟩
  refine⟨tyS Tryz.t65 Tryz.underlying65,?_⟩
  refine⟨tyS Tryz.t67 Tryz.underlying67,?_⟩
  refine⟨tyS Tryz.t77 Tryz.underlying77,?_⟩
  refine⟨tyS Tryz.t78 Tryz.underlying78,?_⟩
  refine⟨tyS Tryz.t80 Tryz.underlying80,?_⟩
  refine⟨tyS Tryz.t82 Tryz.underlying82,?_⟩
  refine⟨tyS Tryz.t84 Tryz.underlying84,?_⟩
  refine⟨tyS Tryz.t87 Tryz.underlying87,?_⟩
  refine⟨tyS Tryz.t90 Tryz.underlying90,?_⟩
  refine⟨tyS Tryz.t92 Tryz.underlying92,?_⟩
  refine⟨tyS Tryz.t94 Tryz.underlying94,?_⟩
  refine⟨tyS Tryz.t96 Tryz.underlying96,?_⟩
  refine⟨tyS Tryz.t98 Tryz.underlying98,?_⟩
  refine⟨tyS Tryz.t102 Tryz.underlying102,?_⟩
  refine⟨tyS Tryz.t115 Tryz.underlying115,?_⟩
  refine⟨tyS Tryz.t116 Tryz.underlying116,?_⟩
  refine⟨tyS Tryz.t120 Tryz.underlying120,?_⟩
  refine⟨tyS Tryz.t128 Tryz.underlying128,?_⟩
  refine⟨tyS Tryz.t139 Tryz.underlying139,?_⟩
  refine⟨tyS Tryz.t140 Tryz.underlying140,?_⟩
  refine⟨tyS Tryz.t141 Tryz.underlying141,?_⟩
  refine⟨tyS Tryz.t142 Tryz.underlying142,?_⟩
  refine⟨tyS Tryz.t145 Tryz.underlying145,?_⟩
  refine⟨tyS Tryz.t147 Tryz.underlying147,?_⟩
  refine⟨tyS Tryz.t150 Tryz.underlying150,?_⟩
  refine⟨tyS Tryz.t151 Tryz.underlying151,?_⟩
  refine⟨tyS Tryz.t155 Tryz.underlying155,?_⟩
  refine⟨tyS Tryz.t161 Tryz.underlying161,?_⟩
  refine⟨tyS Tryz.t164 Tryz.underlying164,?_⟩
  refine⟨tyS Tryz.t166 Tryz.underlying166,?_⟩
  refine⟨tyS Tryz.t172 Tryz.underlying172,?_⟩
  refine⟨tyS Tryz.t188 Tryz.underlying188,?_⟩
  refine⟨tyS Tryz.t190 Tryz.underlying190,?_⟩
  refine⟨tyS Tryz.t192 Tryz.underlying192,?_⟩
  refine⟨tyS Tryz.t194 Tryz.underlying194,?_⟩
  refine⟨tyS Tryz.t198 Tryz.underlying198,?_⟩
  refine⟨tyS Tryz.t202 Tryz.underlying202,?_⟩
  refine⟨tyS Tryz.t203 Tryz.underlying203,?_⟩
  refine⟨tyS Tryz.t205 Tryz.underlying205,?_⟩
  refine⟨tyS Tryz.t206 Tryz.underlying206,?_⟩
  refine⟨tyS Tryz.t208 Tryz.underlying208,?_⟩
  refine⟨tyS Tryz.t212 Tryz.underlying212,?_⟩
  refine⟨tyS Tryz.t213 Tryz.underlying213,?_⟩
  refine⟨tyS Tryz.t216 Tryz.underlying216,?_⟩
  refine⟨tyS Tryz.t226 Tryz.underlying226,?_⟩
  refine⟨tyS Tryz.t228 Tryz.underlying228,?_⟩
  refine⟨tyS Tryz.t231 Tryz.underlying231,?_⟩
  refine⟨tyS Tryz.t232 Tryz.underlying232,?_⟩
  refine⟨tyS Tryz.t234 Tryz.underlying234,?_⟩
  refine⟨tyS Tryz.t236 Tryz.underlying236,?_⟩
  refine⟨tyS Tryz.t238 Tryz.underlying238,?_⟩
  refine⟨tyS Tryz.t240 Tryz.underlying240,?_⟩
  refine⟨tyS Tryz.t242 Tryz.underlying242,?_⟩
  refine⟨tyS Tryz.t243 Tryz.underlying243,?_⟩
  refine⟨tyS Tryz.t247 Tryz.underlying247,?_⟩
  refine⟨tyS Tryz.t249 Tryz.underlying249,?_⟩
  refine⟨tyS Tryz.t255 Tryz.underlying255,?_⟩
  refine⟨tyS Tryz.t260 Tryz.underlying260,?_⟩
  refine⟨tyS Tryz.t279 Tryz.underlying279,?_⟩
  refine⟨tyS Tryz.t281 Tryz.underlying281,?_⟩
  refine⟨tyS Tryz.t282 Tryz.underlying282,?_⟩
  refine⟨tyS Tryz.t283 Tryz.underlying283,?_⟩
  refine⟨tyS Tryz.t284 Tryz.underlying284,?_⟩
  refine⟨tyS Tryz.t285 Tryz.underlying285,?_⟩
  refine⟨tyS Tryz.t286 Tryz.underlying286,?_⟩
  refine⟨tyS Tryz.t287 Tryz.underlying287,?_⟩
  refine⟨tyS Tryz.t288 Tryz.underlying288,?_⟩
  refine⟨tyS Tryz.t289 Tryz.underlying289,?_⟩
  refine⟨tyS Tryz.t290 Tryz.underlying290,?_⟩
  refine⟨tyS Tryz.t293 Tryz.underlying293,?_⟩
  refine⟨tyS Tryz.t303 Tryz.underlying303,?_⟩
  refine⟨tyS Tryz.t305 Tryz.underlying305,?_⟩
  refine⟨tyS Tryz.t307 Tryz.underlying307,?_⟩
  refine⟨tyS Tryz.t309 Tryz.underlying309,?_⟩
  refine⟨tyS Tryz.t314 Tryz.underlying314,?_⟩
  refine⟨tyS Tryz.t324 Tryz.underlying324,?_⟩
  refine⟨tyS Tryz.t326 Tryz.underlying326,?_⟩
  refine⟨tyS Tryz.t327 Tryz.underlying327,?_⟩
  refine⟨tyS Tryz.t328 Tryz.underlying328,?_⟩
  refine⟨tyS Tryz.t329 Tryz.underlying329,?_⟩
  refine⟨tyS Tryz.t330 Tryz.underlying330,?_⟩
  refine⟨tyS Tryz.t332 Tryz.underlying332,?_⟩
  refine⟨tyS Tryz.t342 Tryz.underlying342,?_⟩
  refine⟨tyS Tryz.t344 Tryz.underlying344,?_⟩
  refine⟨tyS Tryz.t350 Tryz.underlying350,?_⟩
  refine⟨tyS Tryz.t352 Tryz.underlying352,?_⟩
  exact trivial
 unfold ag_ at h
 have h2:ij_[T]? = some (some e):=by
  cases ht:ij_[T]? with
  | none=>rw[ht] at h;cases h
  | some x=>rw[ht] at h;exact congrArg some h
 have:=AllOk.at _ 0 T e hL h2
 rwa[Nat.zero_add] at this
theorem dV_:Tryz.prog.follows .mixedOrders=true:=by kernel_rfl
theorem ou_:Body Tryz.prog 10:=⟨Tryz.f10,_,Tryz.func10,rfl,by kernel_rfl⟩
theorem iz_:Body Tryz.prog 12:=⟨Tryz.f12,_,Tryz.func12,rfl,by kernel_rfl⟩
theorem ot_:Body Tryz.prog 14:=⟨Tryz.f14,_,Tryz.func14,rfl,by kernel_rfl⟩
theorem a4_:Body Tryz.prog 15:=⟨Tryz.f15,_,Tryz.func15,rfl,by kernel_rfl⟩
theorem c7_:Body Tryz.prog 17:=⟨Tryz.f17,_,Tryz.func17,rfl,by kernel_rfl⟩
theorem eB_:Body Tryz.prog 19:=⟨Tryz.f19,_,Tryz.func19,rfl,by kernel_rfl⟩
theorem iy_:Body Tryz.prog 21:=⟨Tryz.f21,_,Tryz.func21,rfl,by kernel_rfl⟩
theorem eA_:Body Tryz.prog 23:=⟨Tryz.f23,_,Tryz.func23,rfl,by kernel_rfl⟩
theorem os_:Body Tryz.prog 25:=⟨Tryz.f25,_,Tryz.func25,rfl,by kernel_rfl⟩
theorem or_:Body Tryz.prog 26:=⟨Tryz.f26,_,Tryz.func26,rfl,by kernel_rfl⟩
theorem ix_:Body Tryz.prog 27:=⟨Tryz.f27,_,Tryz.func27,rfl,by kernel_rfl⟩
theorem oq_:Body Tryz.prog 28:=⟨Tryz.f28,_,Tryz.func28,rfl,by kernel_rfl⟩
theorem bP_:Body Tryz.prog 29:=⟨Tryz.f29,_,Tryz.func29,rfl,by kernel_rfl⟩
theorem op_:Body Tryz.prog 30:=⟨Tryz.f30,_,Tryz.func30,rfl,by kernel_rfl⟩
theorem iw_:Body Tryz.prog 31:=⟨Tryz.f31,_,Tryz.func31,rfl,by kernel_rfl⟩
theorem oo_:Body Tryz.prog 32:=⟨Tryz.f32,_,Tryz.func32,rfl,by kernel_rfl⟩
theorem iv_:Body Tryz.prog 33:=⟨Tryz.f33,_,Tryz.func33,rfl,by kernel_rfl⟩
theorem on_:Body Tryz.prog 34:=⟨Tryz.f34,_,Tryz.func34,rfl,by kernel_rfl⟩
theorem iu_:Body Tryz.prog 35:=⟨Tryz.f35,_,Tryz.func35,rfl,by kernel_rfl⟩
theorem ez_:Body Tryz.prog 38:=⟨Tryz.f38,_,Tryz.func38,rfl,by kernel_rfl⟩
theorem it_:Body Tryz.prog 39:=⟨Tryz.f39,_,Tryz.func39,rfl,by kernel_rfl⟩
theorem cp_:Body Tryz.prog 40:=⟨Tryz.f40,_,Tryz.func40,rfl,by kernel_rfl⟩
theorem om_:Body Tryz.prog 44:=⟨Tryz.f44,_,Tryz.func44,rfl,by kernel_rfl⟩
theorem ol_:Body Tryz.prog 45:=⟨Tryz.f45,_,Tryz.func45,rfl,by kernel_rfl⟩
theorem ok_:Body Tryz.prog 46:=⟨Tryz.f46,_,Tryz.func46,rfl,by kernel_rfl⟩
theorem oj_:Body Tryz.prog 47:=⟨Tryz.f47,_,Tryz.func47,rfl,by kernel_rfl⟩
theorem oi_:Body Tryz.prog 48:=⟨Tryz.f48,_,Tryz.func48,rfl,by kernel_rfl⟩
theorem oh_:Body Tryz.prog 49:=⟨Tryz.f49,_,Tryz.func49,rfl,by kernel_rfl⟩
theorem og_:Body Tryz.prog 50:=⟨Tryz.f50,_,Tryz.func50,rfl,by kernel_rfl⟩
theorem co_:Body Tryz.prog 54:=⟨Tryz.f54,_,Tryz.func54,rfl,by kernel_rfl⟩
theorem cn_:Body Tryz.prog 55:=⟨Tryz.f55,_,Tryz.func55,rfl,by kernel_rfl⟩
theorem of_:Body Tryz.prog 56:=⟨Tryz.f56,_,Tryz.func56,rfl,by kernel_rfl⟩
theorem oe_:Body Tryz.prog 57:=⟨Tryz.f57,_,Tryz.func57,rfl,by kernel_rfl⟩
theorem od_:Body Tryz.prog 58:=⟨Tryz.f58,_,Tryz.func58,rfl,by kernel_rfl⟩
theorem c6_:Body Tryz.prog 59:=⟨Tryz.f59,_,Tryz.func59,rfl,by kernel_rfl⟩
theorem oc_:Body Tryz.prog 64:=⟨Tryz.f64,_,Tryz.func64,rfl,by kernel_rfl⟩
theorem is_:Body Tryz.prog 65:=⟨Tryz.f65,_,Tryz.func65,rfl,by kernel_rfl⟩
theorem ob_:Body Tryz.prog 67:=⟨Tryz.f67,_,Tryz.func67,rfl,by kernel_rfl⟩
theorem oa_:Body Tryz.prog 68:=⟨Tryz.f68,_,Tryz.func68,rfl,by kernel_rfl⟩
theorem n9_:Body Tryz.prog 69:=⟨Tryz.f69,_,Tryz.func69,rfl,by kernel_rfl⟩
theorem ey_:Body Tryz.prog 70:=⟨Tryz.f70,_,Tryz.func70,rfl,by kernel_rfl⟩
theorem bO_:Body Tryz.prog 71:=⟨Tryz.f71,_,Tryz.func71,rfl,by kernel_rfl⟩
theorem ir_:Body Tryz.prog 72:=⟨Tryz.f72,_,Tryz.func72,rfl,by kernel_rfl⟩
theorem n8_:Body Tryz.prog 73:=⟨Tryz.f73,_,Tryz.func73,rfl,by kernel_rfl⟩
theorem ex_:Body Tryz.prog 74:=⟨Tryz.f74,_,Tryz.func74,rfl,by kernel_rfl⟩
theorem n7_:Body Tryz.prog 75:=⟨Tryz.f75,_,Tryz.func75,rfl,by kernel_rfl⟩
theorem iq_:Body Tryz.prog 76:=⟨Tryz.f76,_,Tryz.func76,rfl,by kernel_rfl⟩
theorem ew_:Body Tryz.prog 77:=⟨Tryz.f77,_,Tryz.func77,rfl,by kernel_rfl⟩
theorem n6_:Body Tryz.prog 78:=⟨Tryz.f78,_,Tryz.func78,rfl,by kernel_rfl⟩
theorem n5_:Body Tryz.prog 79:=⟨Tryz.f79,_,Tryz.func79,rfl,by kernel_rfl⟩
theorem n4_:Body Tryz.prog 81:=⟨Tryz.f81,_,Tryz.func81,rfl,by kernel_rfl⟩
theorem c5_:Body Tryz.prog 82:=⟨Tryz.f82,_,Tryz.func82,rfl,by kernel_rfl⟩
theorem n3_:Body Tryz.prog 83:=⟨Tryz.f83,_,Tryz.func83,rfl,by kernel_rfl⟩
theorem ip_:Body Tryz.prog 87:=⟨Tryz.f87,_,Tryz.func87,rfl,by kernel_rfl⟩
theorem ev_:Body Tryz.prog 88:=⟨Tryz.f88,_,Tryz.func88,rfl,by kernel_rfl⟩
theorem n2_:Body Tryz.prog 89:=⟨Tryz.f89,_,Tryz.func89,rfl,by kernel_rfl⟩
theorem n1_:Body Tryz.prog 90:=⟨Tryz.f90,_,Tryz.func90,rfl,by kernel_rfl⟩
theorem io_:Body Tryz.prog 92:=⟨Tryz.f92,_,Tryz.func92,rfl,by kernel_rfl⟩
theorem in_:Body Tryz.prog 93:=⟨Tryz.f93,_,Tryz.func93,rfl,by kernel_rfl⟩
theorem n0_:Body Tryz.prog 94:=⟨Tryz.f94,_,Tryz.func94,rfl,by kernel_rfl⟩
theorem im_:Body Tryz.prog 95:=⟨Tryz.f95,_,Tryz.func95,rfl,by kernel_rfl⟩
theorem eu_:Body Tryz.prog 96:=⟨Tryz.f96,_,Tryz.func96,rfl,by kernel_rfl⟩
theorem et_:Body Tryz.prog 97:=⟨Tryz.f97,_,Tryz.func97,rfl,by kernel_rfl⟩
theorem nZ_:Body Tryz.prog 98:=⟨Tryz.f98,_,Tryz.func98,rfl,by kernel_rfl⟩
theorem il_:Body Tryz.prog 99:=⟨Tryz.f99,_,Tryz.func99,rfl,by kernel_rfl⟩
theorem aG_:Body Tryz.prog 100:=⟨Tryz.f100,_,Tryz.func100,rfl,by kernel_rfl⟩
theorem mG_:Body Tryz.prog 101:=⟨Tryz.f101,_,Tryz.func101,rfl,by kernel_rfl⟩
theorem gt_:Body Tryz.prog 102:=⟨Tryz.f102,_,Tryz.func102,rfl,by kernel_rfl⟩
theorem mF_:Body Tryz.prog 103:=⟨Tryz.f103,_,Tryz.func103,rfl,by kernel_rfl⟩
theorem mE_:Body Tryz.prog 117:=⟨Tryz.f117,_,Tryz.func117,rfl,by kernel_rfl⟩
theorem dE_:Body Tryz.prog 118:=⟨Tryz.f118,_,Tryz.func118,rfl,by kernel_rfl⟩
theorem dD_:Body Tryz.prog 119:=⟨Tryz.f119,_,Tryz.func119,rfl,by kernel_rfl⟩
theorem a1_:Body Tryz.prog 120:=⟨Tryz.f120,_,Tryz.func120,rfl,by kernel_rfl⟩
theorem gs_:Body Tryz.prog 121:=⟨Tryz.f121,_,Tryz.func121,rfl,by kernel_rfl⟩
theorem dC_:Body Tryz.prog 122:=⟨Tryz.f122,_,Tryz.func122,rfl,by kernel_rfl⟩
theorem dB_:Body Tryz.prog 123:=⟨Tryz.f123,_,Tryz.func123,rfl,by kernel_rfl⟩
theorem gr_:Body Tryz.prog 124:=⟨Tryz.f124,_,Tryz.func124,rfl,by kernel_rfl⟩
theorem gq_:Body Tryz.prog 125:=⟨Tryz.f125,_,Tryz.func125,rfl,by kernel_rfl⟩
theorem mD_:Body Tryz.prog 126:=⟨Tryz.f126,_,Tryz.func126,rfl,by kernel_rfl⟩
theorem mC_:Body Tryz.prog 127:=⟨Tryz.f127,_,Tryz.func127,rfl,by kernel_rfl⟩
theorem gp_:Body Tryz.prog 128:=⟨Tryz.f128,_,Tryz.func128,rfl,by kernel_rfl⟩
theorem mB_:Body Tryz.prog 129:=⟨Tryz.f129,_,Tryz.func129,rfl,by kernel_rfl⟩
theorem go_:Body Tryz.prog 130:=⟨Tryz.f130,_,Tryz.func130,rfl,by kernel_rfl⟩
theorem mA_:Body Tryz.prog 131:=⟨Tryz.f131,_,Tryz.func131,rfl,by kernel_rfl⟩
theorem mz_:Body Tryz.prog 132:=⟨Tryz.f132,_,Tryz.func132,rfl,by kernel_rfl⟩
theorem gn_:Body Tryz.prog 133:=⟨Tryz.f133,_,Tryz.func133,rfl,by kernel_rfl⟩
theorem gm_:Body Tryz.prog 134:=⟨Tryz.f134,_,Tryz.func134,rfl,by kernel_rfl⟩
theorem my_:Body Tryz.prog 135:=⟨Tryz.f135,_,Tryz.func135,rfl,by kernel_rfl⟩
theorem gl_:Body Tryz.prog 136:=⟨Tryz.f136,_,Tryz.func136,rfl,by kernel_rfl⟩
theorem mx_:Body Tryz.prog 137:=⟨Tryz.f137,_,Tryz.func137,rfl,by kernel_rfl⟩
theorem mw_:Body Tryz.prog 138:=⟨Tryz.f138,_,Tryz.func138,rfl,by kernel_rfl⟩
theorem mv_:Body Tryz.prog 139:=⟨Tryz.f139,_,Tryz.func139,rfl,by kernel_rfl⟩
theorem mu_:Body Tryz.prog 140:=⟨Tryz.f140,_,Tryz.func140,rfl,by kernel_rfl⟩
theorem mt_:Body Tryz.prog 141:=⟨Tryz.f141,_,Tryz.func141,rfl,by kernel_rfl⟩
theorem gk_:Body Tryz.prog 142:=⟨Tryz.f142,_,Tryz.func142,rfl,by kernel_rfl⟩
theorem ms_:Body Tryz.prog 143:=⟨Tryz.f143,_,Tryz.func143,rfl,by kernel_rfl⟩
theorem mr_:Body Tryz.prog 144:=⟨Tryz.f144,_,Tryz.func144,rfl,by kernel_rfl⟩
theorem mq_:Body Tryz.prog 145:=⟨Tryz.f145,_,Tryz.func145,rfl,by kernel_rfl⟩
theorem mp_:Body Tryz.prog 146:=⟨Tryz.f146,_,Tryz.func146,rfl,by kernel_rfl⟩
theorem bZ_:Body Tryz.prog 147:=⟨Tryz.f147,_,Tryz.func147,rfl,by kernel_rfl⟩
theorem dA_:Body Tryz.prog 156:=⟨Tryz.f156,_,Tryz.func156,rfl,by kernel_rfl⟩
theorem mo_:Body Tryz.prog 159:=⟨Tryz.f159,_,Tryz.func159,rfl,by kernel_rfl⟩
theorem gj_:Body Tryz.prog 160:=⟨Tryz.f160,_,Tryz.func160,rfl,by kernel_rfl⟩
theorem bg_:Body Tryz.prog 161:=⟨Tryz.f161,_,Tryz.func161,rfl,by kernel_rfl⟩
theorem gi_:Body Tryz.prog 162:=⟨Tryz.f162,_,Tryz.func162,rfl,by kernel_rfl⟩
theorem bY_:Body Tryz.prog 163:=⟨Tryz.f163,_,Tryz.func163,rfl,by kernel_rfl⟩
theorem mn_:Body Tryz.prog 164:=⟨Tryz.f164,_,Tryz.func164,rfl,by kernel_rfl⟩
theorem dz_:Body Tryz.prog 165:=⟨Tryz.f165,_,Tryz.func165,rfl,by kernel_rfl⟩
theorem mm_:Body Tryz.prog 166:=⟨Tryz.f166,_,Tryz.func166,rfl,by kernel_rfl⟩
theorem ml_:Body Tryz.prog 167:=⟨Tryz.f167,_,Tryz.func167,rfl,by kernel_rfl⟩
theorem mk_:Body Tryz.prog 168:=⟨Tryz.f168,_,Tryz.func168,rfl,by kernel_rfl⟩
theorem bG_:Body Tryz.prog 169:=⟨Tryz.f169,_,Tryz.func169,rfl,by kernel_rfl⟩
theorem gh_:Body Tryz.prog 170:=⟨Tryz.f170,_,Tryz.func170,rfl,by kernel_rfl⟩
theorem gg_:Body Tryz.prog 171:=⟨Tryz.f171,_,Tryz.func171,rfl,by kernel_rfl⟩
theorem gf_:Body Tryz.prog 184:=⟨Tryz.f184,_,Tryz.func184,rfl,by kernel_rfl⟩
theorem ge_:Body Tryz.prog 185:=⟨Tryz.f185,_,Tryz.func185,rfl,by kernel_rfl⟩
theorem dy_:Body Tryz.prog 186:=⟨Tryz.f186,_,Tryz.func186,rfl,by kernel_rfl⟩
theorem gd_:Body Tryz.prog 187:=⟨Tryz.f187,_,Tryz.func187,rfl,by kernel_rfl⟩
theorem cx_:Body Tryz.prog 188:=⟨Tryz.f188,_,Tryz.func188,rfl,by kernel_rfl⟩
theorem mj_:Body Tryz.prog 189:=⟨Tryz.f189,_,Tryz.func189,rfl,by kernel_rfl⟩
theorem mi_:Body Tryz.prog 190:=⟨Tryz.f190,_,Tryz.func190,rfl,by kernel_rfl⟩
theorem gc_:Body Tryz.prog 191:=⟨Tryz.f191,_,Tryz.func191,rfl,by kernel_rfl⟩
theorem gb_:Body Tryz.prog 192:=⟨Tryz.f192,_,Tryz.func192,rfl,by kernel_rfl⟩
theorem bX_:Body Tryz.prog 193:=⟨Tryz.f193,_,Tryz.func193,rfl,by kernel_rfl⟩
theorem mh_:Body Tryz.prog 194:=⟨Tryz.f194,_,Tryz.func194,rfl,by kernel_rfl⟩
theorem mg_:Body Tryz.prog 199:=⟨Tryz.f199,_,Tryz.func199,rfl,by kernel_rfl⟩
theorem mf_:Body Tryz.prog 200:=⟨Tryz.f200,_,Tryz.func200,rfl,by kernel_rfl⟩
theorem me_:Body Tryz.prog 201:=⟨Tryz.f201,_,Tryz.func201,rfl,by kernel_rfl⟩
theorem md_:Body Tryz.prog 206:=⟨Tryz.f206,_,Tryz.func206,rfl,by kernel_rfl⟩
theorem mc_:Body Tryz.prog 207:=⟨Tryz.f207,_,Tryz.func207,rfl,by kernel_rfl⟩
theorem mb_:Body Tryz.prog 208:=⟨Tryz.f208,_,Tryz.func208,rfl,by kernel_rfl⟩
theorem ma_:Body Tryz.prog 209:=⟨Tryz.f209,_,Tryz.func209,rfl,by kernel_rfl⟩
theorem l9_:Body Tryz.prog 210:=⟨Tryz.f210,_,Tryz.func210,rfl,by kernel_rfl⟩
theorem l8_:Body Tryz.prog 211:=⟨Tryz.f211,_,Tryz.func211,rfl,by kernel_rfl⟩
theorem ga_:Body Tryz.prog 212:=⟨Tryz.f212,_,Tryz.func212,rfl,by kernel_rfl⟩
theorem f9_:Body Tryz.prog 213:=⟨Tryz.f213,_,Tryz.func213,rfl,by kernel_rfl⟩
theorem dx_:Body Tryz.prog 214:=⟨Tryz.f214,_,Tryz.func214,rfl,by kernel_rfl⟩
theorem l7_:Body Tryz.prog 215:=⟨Tryz.f215,_,Tryz.func215,rfl,by kernel_rfl⟩
theorem f8_:Body Tryz.prog 216:=⟨Tryz.f216,_,Tryz.func216,rfl,by kernel_rfl⟩
theorem f7_:Body Tryz.prog 217:=⟨Tryz.f217,_,Tryz.func217,rfl,by kernel_rfl⟩
theorem l6_:Body Tryz.prog 218:=⟨Tryz.f218,_,Tryz.func218,rfl,by kernel_rfl⟩
theorem cw_:Body Tryz.prog 235:=⟨Tryz.f235,_,Tryz.func235,rfl,by kernel_rfl⟩
theorem au_:Body Tryz.prog 236:=⟨Tryz.f236,_,Tryz.func236,rfl,by kernel_rfl⟩
theorem f6_:Body Tryz.prog 237:=⟨Tryz.f237,_,Tryz.func237,rfl,by kernel_rfl⟩
theorem l5_:Body Tryz.prog 238:=⟨Tryz.f238,_,Tryz.func238,rfl,by kernel_rfl⟩
theorem l4_:Body Tryz.prog 240:=⟨Tryz.f240,_,Tryz.func240,rfl,by kernel_rfl⟩
theorem f5_:Body Tryz.prog 241:=⟨Tryz.f241,_,Tryz.func241,rfl,by kernel_rfl⟩
theorem aE_:Body Tryz.prog 256:=⟨Tryz.f256,_,Tryz.func256,rfl,by kernel_rfl⟩
theorem f4_:Body Tryz.prog 257:=⟨Tryz.f257,_,Tryz.func257,rfl,by kernel_rfl⟩
theorem bW_:Body Tryz.prog 258:=⟨Tryz.f258,_,Tryz.func258,rfl,by kernel_rfl⟩
theorem cv_:Body Tryz.prog 259:=⟨Tryz.f259,_,Tryz.func259,rfl,by kernel_rfl⟩
theorem a0_:Body Tryz.prog 260:=⟨Tryz.f260,_,Tryz.func260,rfl,by kernel_rfl⟩
theorem cu_:Body Tryz.prog 269:=⟨Tryz.f269,_,Tryz.func269,rfl,by kernel_rfl⟩
instance:Glob:=⟨fun
 | 11=>some [.v (.int .u32 1779033703),.v (.int .u32 3144134277),.v (.int .u32 1013904242),.v (.int .u32 2773480762),.v (.int .u32 1359893119),.v (.int .u32 2600822924),.v (.int .u32 528734635),.v (.int .u32 1541459225)]
 | 12=>some [.v (.int .u8 0),.v (.int .u8 1),.v (.int .u8 2),.v (.int .u8 3),.v (.int .u8 4),.v (.int .u8 5),.v (.int .u8 6),.v (.int .u8 7),.v (.int .u8 8),.v (.int .u8 9),.v (.int .u8 10),.v (.int .u8 11),.v (.int .u8 12),.v (.int .u8 13),.v (.int .u8 14),.v (.int .u8 15),.v (.int .u8 14),.v (.int .u8 10),.v (.int .u8 4),.v (.int .u8 8),.v (.int .u8 9),.v (.int .u8 15),.v (.int .u8 13),.v (.int .u8 6),.v (.int .u8 1),.v (.int .u8 12),.v (.int .u8 0),.v (.int .u8 2),.v (.int .u8 11),.v (.int .u8 7),.v (.int .u8 5),.v (.int .u8 3),.v (.int .u8 11),.v (.int .u8 8),.v (.int .u8 12),.v (.int .u8 0),.v (.int .u8 5),.v (.int .u8 2),.v (.int .u8 15),.v (.int .u8 13),.v (.int .u8 10),.v (.int .u8 14),.v (.int .u8 3),.v (.int .u8 6),.v (.int .u8 7),.v (.int .u8 1),.v (.int .u8 9),.v (.int .u8 4),.v (.int .u8 7),.v (.int .u8 9),.v (.int .u8 3),.v (.int .u8 1),.v (.int .u8 13),.v (.int .u8 12),.v (.int .u8 11),.v (.int .u8 14),.v (.int .u8 2),.v (.int .u8 6),.v (.int .u8 5),.v (.int .u8 10),.v (.int .u8 4),.v (.int .u8 0),.v (.int .u8 15),.v (.int .u8 8),.v (.int .u8 9),.v (.int .u8 0),.v (.int .u8 5),.v (.int .u8 7),.v (.int .u8 2),.v (.int .u8 4),.v (.int .u8 10),.v (.int .u8 15),.v (.int .u8 14),.v (.int .u8 1),.v (.int .u8 11),.v (.int .u8 12),.v (.int .u8 6),.v (.int .u8 8),.v (.int .u8 3),.v (.int .u8 13),.v (.int .u8 2),.v (.int .u8 12),.v (.int .u8 6),.v (.int .u8 10),.v (.int .u8 0),.v (.int .u8 11),.v (.int .u8 8),.v (.int .u8 3),.v (.int .u8 4),.v (.int .u8 13),.v (.int .u8 7),.v (.int .u8 5),.v (.int .u8 15),.v (.int .u8 14),.v (.int .u8 1),.v (.int .u8 9),.v (.int .u8 12),.v (.int .u8 5),.v (.int .u8 1),.v (.int .u8 15),.v (.int .u8 14),.v (.int .u8 13),.v (.int .u8 4),.v (.int .u8 10),.v (.int .u8 0),.v (.int .u8 7),.v (.int .u8 6),.v (.int .u8 3),.v (.int .u8 9),.v (.int .u8 2),.v (.int .u8 8),.v (.int .u8 11),.v (.int .u8 13),.v (.int .u8 11),.v (.int .u8 7),.v (.int .u8 14),.v (.int .u8 12),.v (.int .u8 1),.v (.int .u8 3),.v (.int .u8 9),.v (.int .u8 5),.v (.int .u8 0),.v (.int .u8 15),.v (.int .u8 4),.v (.int .u8 8),.v (.int .u8 6),.v (.int .u8 2),.v (.int .u8 10),.v (.int .u8 6),.v (.int .u8 15),.v (.int .u8 14),.v (.int .u8 9),.v (.int .u8 11),.v (.int .u8 3),.v (.int .u8 0),.v (.int .u8 8),.v (.int .u8 12),.v (.int .u8 2),.v (.int .u8 13),.v (.int .u8 7),.v (.int .u8 1),.v (.int .u8 4),.v (.int .u8 10),.v (.int .u8 5),.v (.int .u8 10),.v (.int .u8 2),.v (.int .u8 8),.v (.int .u8 4),.v (.int .u8 7),.v (.int .u8 6),.v (.int .u8 1),.v (.int .u8 5),.v (.int .u8 15),.v (.int .u8 11),.v (.int .u8 9),.v (.int .u8 14),.v (.int .u8 3),.v (.int .u8 12),.v (.int .u8 13),.v (.int .u8 0)]
 | 1=>some [.v (.int .i64 (-1099511627776)),.v (.int .i64 1099511627776)]
 | 5=>some [.v (.int .i64 0),.v (.int .i64 1099511627776)]
 | 0=>some [.v (.int .i64 1),.v (.int .i64 9999)]
 | 3=>some [.v (.int .i64 0),.v (.int .i64 39)]
 | 4=>some [.v (.int .i64 0),.v (.int .i64 255)]
 | 2=>some [.v (.int .i64 0),.v (.int .i64 1048576)]
 | 6=>some [.v (.int .i64 0),.v (.int .i64 255)]
 | 7=>some [.v (.int .i64 1),.v (.int .i64 1048576)]
 | 9=>some [.v (.int .i64 0),.v (.int .i64 31)]
 | 10=>some [.v (.int .i64 1),.v (.int .i64 1048576)]
 | 8=>some [.v (.int .i64 0),.v (.int .i64 1)]
 | _=>none⟩
@[simp] theorem yl_:(Glob.laid 11:Option (List D))=some [.v (.int .u32 1779033703),.v (.int .u32 3144134277),.v (.int .u32 1013904242),.v (.int .u32 2773480762),.v (.int .u32 1359893119),.v (.int .u32 2600822924),.v (.int .u32 528734635),.v (.int .u32 1541459225)]:=rfl
@[simp] theorem nX_:(Glob.laid 12:Option (List D))=some [.v (.int .u8 0),.v (.int .u8 1),.v (.int .u8 2),.v (.int .u8 3),.v (.int .u8 4),.v (.int .u8 5),.v (.int .u8 6),.v (.int .u8 7),.v (.int .u8 8),.v (.int .u8 9),.v (.int .u8 10),.v (.int .u8 11),.v (.int .u8 12),.v (.int .u8 13),.v (.int .u8 14),.v (.int .u8 15),.v (.int .u8 14),.v (.int .u8 10),.v (.int .u8 4),.v (.int .u8 8),.v (.int .u8 9),.v (.int .u8 15),.v (.int .u8 13),.v (.int .u8 6),.v (.int .u8 1),.v (.int .u8 12),.v (.int .u8 0),.v (.int .u8 2),.v (.int .u8 11),.v (.int .u8 7),.v (.int .u8 5),.v (.int .u8 3),.v (.int .u8 11),.v (.int .u8 8),.v (.int .u8 12),.v (.int .u8 0),.v (.int .u8 5),.v (.int .u8 2),.v (.int .u8 15),.v (.int .u8 13),.v (.int .u8 10),.v (.int .u8 14),.v (.int .u8 3),.v (.int .u8 6),.v (.int .u8 7),.v (.int .u8 1),.v (.int .u8 9),.v (.int .u8 4),.v (.int .u8 7),.v (.int .u8 9),.v (.int .u8 3),.v (.int .u8 1),.v (.int .u8 13),.v (.int .u8 12),.v (.int .u8 11),.v (.int .u8 14),.v (.int .u8 2),.v (.int .u8 6),.v (.int .u8 5),.v (.int .u8 10),.v (.int .u8 4),.v (.int .u8 0),.v (.int .u8 15),.v (.int .u8 8),.v (.int .u8 9),.v (.int .u8 0),.v (.int .u8 5),.v (.int .u8 7),.v (.int .u8 2),.v (.int .u8 4),.v (.int .u8 10),.v (.int .u8 15),.v (.int .u8 14),.v (.int .u8 1),.v (.int .u8 11),.v (.int .u8 12),.v (.int .u8 6),.v (.int .u8 8),.v (.int .u8 3),.v (.int .u8 13),.v (.int .u8 2),.v (.int .u8 12),.v (.int .u8 6),.v (.int .u8 10),.v (.int .u8 0),.v (.int .u8 11),.v (.int .u8 8),.v (.int .u8 3),.v (.int .u8 4),.v (.int .u8 13),.v (.int .u8 7),.v (.int .u8 5),.v (.int .u8 15),.v (.int .u8 14),.v (.int .u8 1),.v (.int .u8 9),.v (.int .u8 12),.v (.int .u8 5),.v (.int .u8 1),.v (.int .u8 15),.v (.int .u8 14),.v (.int .u8 13),.v (.int .u8 4),.v (.int .u8 10),.v (.int .u8 0),.v (.int .u8 7),.v (.int .u8 6),.v (.int .u8 3),.v (.int .u8 9),.v (.int .u8 2),.v (.int .u8 8),.v (.int .u8 11),.v (.int .u8 13),.v (.int .u8 11),.v (.int .u8 7),.v (.int .u8 14),.v (.int .u8 12),.v (.int .u8 1),.v (.int .u8 3),.v (.int .u8 9),.v (.int .u8 5),.v (.int .u8 0),.v (.int .u8 15),.v (.int .u8 4),.v (.int .u8 8),.v (.int .u8 6),.v (.int .u8 2),.v (.int .u8 10),.v (.int .u8 6),.v (.int .u8 15),.v (.int .u8 14),.v (.int .u8 9),.v (.int .u8 11),.v (.int .u8 3),.v (.int .u8 0),.v (.int .u8 8),.v (.int .u8 12),.v (.int .u8 2),.v (.int .u8 13),.v (.int .u8 7),.v (.int .u8 1),.v (.int .u8 4),.v (.int .u8 10),.v (.int .u8 5),.v (.int .u8 10),.v (.int .u8 2),.v (.int .u8 8),.v (.int .u8 4),.v (.int .u8 7),.v (.int .u8 6),.v (.int .u8 1),.v (.int .u8 5),.v (.int .u8 15),.v (.int .u8 11),.v (.int .u8 9),.v (.int .u8 14),.v (.int .u8 3),.v (.int .u8 12),.v (.int .u8 13),.v (.int .u8 0)]:=rfl
@[simp] theorem yJ_:(Glob.laid 1:Option (List D))=some [.v (.int .i64 (-1099511627776)),.v (.int .i64 1099511627776)]:=rfl
@[simp] theorem yF_:(Glob.laid 5:Option (List D))=some [.v (.int .i64 0),.v (.int .i64 1099511627776)]:=rfl
@[simp] theorem yK_:(Glob.laid 0:Option (List D))=some [.v (.int .i64 1),.v (.int .i64 9999)]:=rfl
@[simp] theorem yH_:(Glob.laid 3:Option (List D))=some [.v (.int .i64 0),.v (.int .i64 39)]:=rfl
@[simp] theorem yG_:(Glob.laid 4:Option (List D))=some [.v (.int .i64 0),.v (.int .i64 255)]:=rfl
@[simp] theorem yI_:(Glob.laid 2:Option (List D))=some [.v (.int .i64 0),.v (.int .i64 1048576)]:=rfl
@[simp] theorem yE_:(Glob.laid 6:Option (List D))=some [.v (.int .i64 0),.v (.int .i64 255)]:=rfl
@[simp] theorem yD_:(Glob.laid 7:Option (List D))=some [.v (.int .i64 1),.v (.int .i64 1048576)]:=rfl
@[simp] theorem yB_:(Glob.laid 9:Option (List D))=some [.v (.int .i64 0),.v (.int .i64 31)]:=rfl
@[simp] theorem ym_:(Glob.laid 10:Option (List D))=some [.v (.int .i64 1),.v (.int .i64 1048576)]:=rfl
@[simp] theorem yC_:(Glob.laid 8:Option (List D))=some [.v (.int .i64 0),.v (.int .i64 1)]:=rfl
end Go.Proofs.YtfgcgagcpnbgmaaGreatDoor

namespace Go.Proofs.YtfgcgagcpnbgmaaGreatDoor
open Go.Xe
/-- Of two claims the first by the usual means. -/
theorem aI {p q:Prop} (hq:q) (hp:p:=by first|rfl|omega|decide|(simp;done)|(simp;omega)|(intro _ h;exact fcs_side h;done)|(intros;simp_all;done)|(intros;simp_all;omega)):p∧q:=⟨hp,hq⟩
/-- One step into a code of a told form. -/
class Gn (P:Program) (ds:Dn) (pn:Pn) (c:Code) (Q:Exit→St→Prop) (S:St) (G:outParam Prop):Prop where
 go:G→WP P ds pn c Q S
instance (P:Program) (ds:Dn) (pn:Pn) (Q:Exit→St→Prop) (S:St) (x y:Code):Gn P ds pn (.seq x y) Q S (WP P ds pn x (BN_ P ds pn y Q) S):=⟨WP.seq⟩
instance (P:Program) (ds:Dn) (pn:Pn) (Q:Exit→St→Prop) (S:St) (id:Nat) (c:Code):Gn P ds pn (.block id c) Q S (WP P ds pn c (B9_ id Q) S):=⟨WP.block⟩
theorem wG {P:Program} {ds:Dn} {pn:Pn} {c:Code} {Q:Exit→St→Prop} {S:St} {G:Prop} [i:Gn P ds pn c Q S G] (g:G):WP P ds pn c Q S:=i.go g
theorem wR {ds:Dn} {pn:Pn} {Q:Exit→St→Prop} {S:St} {id:Nat} {l:List Oper} {b:Bool} (h:vcOps Tryz.prog ds pn ag_ (l.map (·.dst)) (fun tis S'=>(b=true→bJ_ S (tis.flatMap fun t=>t.e.add))∧(b=true→fJ_ (pn.zs.map (·.1)) (l.map (·.dst)) l (tis.map TI.ts)=true)∧Q .normal S') l S []):WP Tryz.prog ds pn (.region id l.toArray b) Q S:=by
 cases b with
 | false =>
  refine WP.region aa_ ?_
  have e:(fun (tis:List TI) (S':St)=>(false=true→bJ_ S (tis.flatMap fun t=>t.e.add))∧(false=true→fJ_ (pn.zs.map (·.1)) (l.map (·.dst)) l (tis.map TI.ts)=true)∧Q .normal S')=fun _ S'=>Q .normal S':=by funext tis S';simp
  rwa[e] at h
 | true =>
  refine nV_ aa_ dV_ ?_
  have e:(fun (tis:List TI) (S':St)=>(true=true→bJ_ S (tis.flatMap fun t=>t.e.add))∧(true=true→fJ_ (pn.zs.map (·.1)) (l.map (·.dst)) l (tis.map TI.ts)=true)∧Q .normal S')=fun tis S'=>bJ_ S (tis.flatMap fun t=>t.e.add)∧fJ_ (pn.zs.map (·.1)) (l.map (·.dst)) l (tis.map TI.ts)=true∧Q .normal S':=by funext tis S';simp
  rwa[e] at h
theorem cF {ds:Dn} {pn:Pn} {Q:Exit→St→Prop} {S:St} {o:Operand} {x y:Code} (he:S.ev o=.d (.v (.bool false))) (h:WP Tryz.prog ds pn y Q S):WP Tryz.prog ds pn (.cond o x y) Q S:=WP.cond (b:=false) he (fun h=>by cases h) (fun _=>h)
theorem cT {ds:Dn} {pn:Pn} {Q:Exit→St→Prop} {S:St} {o:Operand} {x y:Code} (he:S.ev o=.d (.v (.bool true))) (h:WP Tryz.prog ds pn x Q S):WP Tryz.prog ds pn (.cond o x y) Q S:=WP.cond (b:=true) he (fun _=>h) (fun h=>by cases h)
end Go.Proofs.YtfgcgagcpnbgmaaGreatDoor
