/-
  The types of the seat, for the engine. Printed by seatgen.py.
-/
import Derived.Test.YtdjkbdhdejlakaaGreatDoorRows
import Derived.Test.YtdjkbdhdejlakaaGreatDoorV3
set_option linter.unusedVariables false
set_option linter.unusedSimpArgs false
set_option linter.unusedSectionVars false
namespace Go.Proofs.YtdjkbdhdejlakaaGreatDoor
open Go.Xe
def iZ:Value:=.int .i64 0
@[simp] theorem iZe:iZ=.int .i64 0:=rfl
def uZ:Value:=.int .u8 0
@[simp] theorem uZe:uZ=.int .u8 0:=rfl
def bZ:Value:=.bool false
@[simp] theorem bZe:bZ=.bool false:=rfl
def nZ:Value:=.slice none 0 0
@[simp] theorem nZe:nZ=.slice none 0 0:=rfl
def sZ:Value:=.string { data := #[] }
@[simp] theorem sZe:sZ=.string { data := #[] }:=rfl
def wZ:Value:=.int .u32 0
@[simp] theorem wZe:wZ=.int .u32 0:=rfl
abbrev tF:Option TE:=some ⟨.func,1,8,[.nilFunc]⟩
def iz_:List (Option TE):=[
 none,
 tF,
 some ⟨.int .i64,1,8,[iZ]⟩,
 some ⟨.int .i64,1,8,[iZ]⟩,
 some ⟨.bool,1,1,[bZ]⟩,
 some ⟨.int .u8,1,1,[uZ]⟩,
 some ⟨.int .u8,1,1,[uZ]⟩,
 some ⟨.struct [(0,2),(1,3),(2,4),(3,6)],4,24,[iZ,iZ,bZ,uZ]⟩,
 some ⟨.struct [(0,2),(1,3),(2,4),(3,6)],4,24,[iZ,iZ,bZ,uZ]⟩,
 some ⟨.string,1,16,[sZ]⟩,
 some ⟨.string,1,16,[sZ]⟩,
 some ⟨.string,1,16,[sZ]⟩,
 some ⟨.int .u64,1,8,[.int .u64 0]⟩,
 some ⟨.struct [(0,9),(1,12)],2,24,[sZ,.int .u64 0]⟩,
 none,
 none,
 some ⟨.ptr 299,1,8,[.pointer none]⟩,
 some ⟨.ptr 308,1,8,[.pointer none]⟩,
 some ⟨.struct [(0,17)],1,8,[.pointer none]⟩,
 some ⟨.struct [(0,17)],1,8,[.pointer none]⟩,
 some ⟨.iface,1,16,[.nilIface]⟩,
 none,
 some ⟨.slice 76,1,24,[nZ]⟩,
 some ⟨.slice 63,1,24,[nZ]⟩,
 none,
 some ⟨.struct [(0,23)],1,24,[nZ]⟩,
 tF,
 none,
 none,
 some ⟨.int .i64,1,8,[iZ]⟩,
 none,
 none,
 tF,
 some ⟨.struct [(0,3),(1,3),(2,3),(3,3),(4,3),(5,3),(6,3),(7,3)],8,64,[iZ,iZ,iZ,iZ,iZ,iZ,iZ,iZ]⟩,
 some ⟨.struct [(0,3),(1,3),(2,3),(3,3),(4,3),(5,3),(6,3),(7,3)],8,64,[iZ,iZ,iZ,iZ,iZ,iZ,iZ,iZ]⟩,
 none,
 some ⟨.struct [(0,3),(1,3),(2,3),(3,3)],4,32,[iZ,iZ,iZ,iZ]⟩,
 none,
 some ⟨.struct [(0,3),(1,3),(2,3),(3,3),(4,3)],5,40,[iZ,iZ,iZ,iZ,iZ]⟩,
 some ⟨.struct [(0,3),(1,3),(2,3),(3,3),(4,3),(5,3),(6,3),(7,3)],8,64,[iZ,iZ,iZ,iZ,iZ,iZ,iZ,iZ]⟩,
 some ⟨.struct [(0,3),(1,3),(2,3),(3,3),(4,3),(5,3),(6,3),(7,3)],8,64,[iZ,iZ,iZ,iZ,iZ,iZ,iZ,iZ]⟩,
 none,
 some ⟨.struct [(0,3),(1,3),(2,3),(3,3)],4,32,[iZ,iZ,iZ,iZ]⟩,
 none,
 some ⟨.struct [(0,3),(1,3),(2,3),(3,3)],4,32,[iZ,iZ,iZ,iZ]⟩,
 none,
 some ⟨.struct [(0,3),(1,3)],2,16,[iZ,iZ]⟩,
 some ⟨.struct [(0,3),(1,3),(2,3),(3,3)],4,32,[iZ,iZ,iZ,iZ]⟩,
 some ⟨.struct [(0,3),(1,3),(2,3),(3,3)],4,32,[iZ,iZ,iZ,iZ]⟩,
 none,
 some ⟨.struct [(0,3),(1,3),(2,3),(3,3)],4,32,[iZ,iZ,iZ,iZ]⟩,
 none,
 some ⟨.struct [(0,3),(1,3),(2,3),(3,3),(4,3),(5,3)],6,48,[iZ,iZ,iZ,iZ,iZ,iZ]⟩,
 none,
 some ⟨.struct [(0,3),(1,4)],2,16,[iZ,bZ]⟩,
 none,
 some ⟨.struct [(0,3),(1,3)],2,16,[iZ,iZ]⟩,
 none,
 some ⟨.struct [(0,3),(1,3),(2,3),(3,3),(4,34),(12,36),(16,38),(21,40),(29,42),(33,44),(37,46),(39,48),(43,50),(47,52),(53,54),(55,56)],57,456,[iZ,iZ,iZ,iZ,iZ,iZ,iZ,iZ,iZ,iZ,iZ,iZ,iZ,iZ,iZ,iZ,iZ,iZ,iZ,iZ,iZ,iZ,iZ,iZ,iZ,iZ,iZ,iZ,iZ,iZ,iZ,iZ,iZ,iZ,iZ,iZ,iZ,iZ,iZ,iZ,iZ,iZ,iZ,iZ,iZ,iZ,iZ,iZ,iZ,iZ,iZ,iZ,iZ,iZ,bZ,iZ,iZ]⟩,
 some ⟨.slice 74,1,24,[nZ]⟩,
 none,
 some ⟨.struct [(0,3),(1,59),(2,59),(3,59)],4,80,[iZ,nZ,nZ,nZ]⟩,
 none,
 some ⟨.struct [(0,58),(57,61)],61,536,[iZ,iZ,iZ,iZ,iZ,iZ,iZ,iZ,iZ,iZ,iZ,iZ,iZ,iZ,iZ,iZ,iZ,iZ,iZ,iZ,iZ,iZ,iZ,iZ,iZ,iZ,iZ,iZ,iZ,iZ,iZ,iZ,iZ,iZ,iZ,iZ,iZ,iZ,iZ,iZ,iZ,iZ,iZ,iZ,iZ,iZ,iZ,iZ,iZ,iZ,iZ,iZ,iZ,iZ,bZ,iZ,iZ,iZ,nZ,nZ,nZ]⟩,
 tF,
 none,
 some ⟨.struct [(0,63),(61,63)],122,1072,[iZ,iZ,iZ,iZ,iZ,iZ,iZ,iZ,iZ,iZ,iZ,iZ,iZ,iZ,iZ,iZ,iZ,iZ,iZ,iZ,iZ,iZ,iZ,iZ,iZ,iZ,iZ,iZ,iZ,iZ,iZ,iZ,iZ,iZ,iZ,iZ,iZ,iZ,iZ,iZ,iZ,iZ,iZ,iZ,iZ,iZ,iZ,iZ,iZ,iZ,iZ,iZ,iZ,iZ,bZ,iZ,iZ,iZ,nZ,nZ,nZ,iZ,iZ,iZ,iZ,iZ,iZ,iZ,iZ,iZ,iZ,iZ,iZ,iZ,iZ,iZ,iZ,iZ,iZ,iZ,iZ,iZ,iZ,iZ,iZ,iZ,iZ,iZ,iZ,iZ,iZ,iZ,iZ,iZ,iZ,iZ,iZ,iZ,iZ,iZ,iZ,iZ,iZ,iZ,iZ,iZ,iZ,iZ,iZ,iZ,iZ,iZ,iZ,iZ,iZ,bZ,iZ,iZ,iZ,nZ,nZ,nZ]⟩,
 none,
 none,
 none,
 some ⟨.slice 56,1,24,[nZ]⟩,
 tF,
 none,
 none,
 some ⟨.array 32 5,32,32,[uZ,uZ,uZ,uZ,uZ,uZ,uZ,uZ,uZ,uZ,uZ,uZ,uZ,uZ,uZ,uZ,uZ,uZ,uZ,uZ,uZ,uZ,uZ,uZ,uZ,uZ,uZ,uZ,uZ,uZ,uZ,uZ]⟩,
 none,
 some ⟨.struct [(0,74),(32,3)],33,40,[uZ,uZ,uZ,uZ,uZ,uZ,uZ,uZ,uZ,uZ,uZ,uZ,uZ,uZ,uZ,uZ,uZ,uZ,uZ,uZ,uZ,uZ,uZ,uZ,uZ,uZ,uZ,uZ,uZ,uZ,uZ,uZ,iZ]⟩,
 none,
 some ⟨.slice 25,1,24,[nZ]⟩,
 none,
 some ⟨.map 56 4,1,8,[.map none]⟩,
 none,
 tF,
 some ⟨.slice 66,1,24,[nZ]⟩,
 none,
 none,
 none,
 some ⟨.map 3 3,1,8,[.map none]⟩,
 tF,
 none,
 some ⟨.slice 3,1,24,[nZ]⟩,
 none,
 tF,
 tF,
 none,
 some ⟨.map 58 4,1,8,[.map none]⟩,
 none,
 tF,
 none,
 none,
 none,
 tF,
 none,
 some ⟨.slice 58,1,24,[nZ]⟩,
 none,
 none,
 none,
 none,
 none,
 none,
 some ⟨.map 136 23,1,8,[.map none]⟩,
 tF,
 none,
 tF,
 tF,
 none,
 none,
 some ⟨.slice 23,1,24,[nZ]⟩,
 none,
 tF,
 tF,
 tF,
 none,
 tF,
 tF,
 none,
 none,
 none,
 none,
 tF,
 none,
 tF,
 none,
 none,
 none,
 none,
 some ⟨.struct [(0,3),(1,3)],2,16,[iZ,iZ]⟩,
 none,
 none,
 none,
 none,
 none,
 none,
 tF,
 some ⟨.slice 136,1,24,[nZ]⟩,
 none,
 tF,
 none,
 none,
 none,
 none,
 some ⟨.int .u64,1,8,[.int .u64 0]⟩,
 none,
 none,
 tF,
 none,
 none,
 some ⟨.slice 5,1,24,[nZ]⟩,
 none,
 none,
 none,
 none,
 none,
 none,
 none,
 none,
 some ⟨.slice 178,1,24,[nZ]⟩,
 none,
 some ⟨.struct [(0,166),(1,26)],2,32,[nZ,.nilFunc]⟩,
 none,
 none,
 some ⟨.ptr 58,1,8,[.pointer none]⟩,
 some ⟨.ptr 3,1,8,[.pointer none]⟩,
 none,
 tF,
 none,
 some ⟨.struct [(0,3),(1,3)],2,16,[iZ,iZ]⟩,
 none,
 some ⟨.struct [(0,172),(1,176)],3,24,[.pointer none,iZ,iZ]⟩,
 none,
 none,
 some ⟨.int .i64,1,8,[iZ]⟩,
 none,
 none,
 none,
 none,
 none,
 none,
 none,
 some ⟨.int .u32,1,4,[wZ]⟩,
 none,
 some ⟨.int .u64,1,8,[.int .u64 0]⟩,
 none,
 none,
 none,
 some ⟨.array 64 4,64,64,[bZ,bZ,bZ,bZ,bZ,bZ,bZ,bZ,bZ,bZ,bZ,bZ,bZ,bZ,bZ,bZ,bZ,bZ,bZ,bZ,bZ,bZ,bZ,bZ,bZ,bZ,bZ,bZ,bZ,bZ,bZ,bZ,bZ,bZ,bZ,bZ,bZ,bZ,bZ,bZ,bZ,bZ,bZ,bZ,bZ,bZ,bZ,bZ,bZ,bZ,bZ,bZ,bZ,bZ,bZ,bZ,bZ,bZ,bZ,bZ,bZ,bZ,bZ,bZ]⟩,
 none,
 none,
 tF,
 none,
 none,
 none,
 none,
 some ⟨.slice 205,1,24,[nZ]⟩,
 none,
 some ⟨.struct [(0,3),(1,3),(2,9),(3,203)],4,56,[iZ,iZ,sZ,nZ]⟩,
 none,
 some ⟨.slice 4,1,24,[nZ]⟩,
 none,
 none,
 none,
 none,
 none,
 none,
 none,
 some ⟨.ptr 34,1,8,[.pointer none]⟩,
 some ⟨.ptr 36,1,8,[.pointer none]⟩,
 some ⟨.ptr 38,1,8,[.pointer none]⟩,
 some ⟨.ptr 40,1,8,[.pointer none]⟩,
 some ⟨.ptr 42,1,8,[.pointer none]⟩,
 some ⟨.ptr 44,1,8,[.pointer none]⟩,
 some ⟨.ptr 46,1,8,[.pointer none]⟩,
 some ⟨.ptr 48,1,8,[.pointer none]⟩,
 some ⟨.ptr 50,1,8,[.pointer none]⟩,
 some ⟨.ptr 52,1,8,[.pointer none]⟩,
 none,
 none,
 none,
 none,
 none,
 some ⟨.int .u64,1,8,[.int .u64 0]⟩,
 none,
 none,
 none,
 none,
 none,
 none,
 none,
 none,
 none,
 none,
 none,
 none,
 none,
 none,
 none,
 tF,
 none,
 some ⟨.struct [(0,246)],1,8,[.nilFunc]⟩,
 some ⟨.ptr 269,1,8,[.pointer none]⟩,
 none,
 none,
 none,
 none,
 none,
 none,
 none,
 some ⟨.ptr 230,1,8,[.pointer none]⟩,
 none,
 none,
 none,
 none,
 some ⟨.slice 157,1,24,[nZ]⟩,
 none,
 some ⟨.array 8 189,8,32,[wZ,wZ,wZ,wZ,wZ,wZ,wZ,wZ]⟩,
 none,
 some ⟨.ptr 264,1,8,[.pointer none]⟩,
 none,
 none,
 some ⟨.array 4 248,4,32,[.nilFunc,.nilFunc,.nilFunc,.nilFunc]⟩,
 none,
 none,
 none,
 none,
 none,
 none,
 none,
 none,
 none,
 some ⟨.array 16 189,16,64,[wZ,wZ,wZ,wZ,wZ,wZ,wZ,wZ,wZ,wZ,wZ,wZ,wZ,wZ,wZ,wZ]⟩,
 some ⟨.array 16 189,16,64,[wZ,wZ,wZ,wZ,wZ,wZ,wZ,wZ,wZ,wZ,wZ,wZ,wZ,wZ,wZ,wZ]⟩,
 some ⟨.slice 189,1,24,[nZ]⟩,
 tF,
 some ⟨.array 16 5,16,16,[uZ,uZ,uZ,uZ,uZ,uZ,uZ,uZ,uZ,uZ,uZ,uZ,uZ,uZ,uZ,uZ]⟩,
 some ⟨.array 10 283,160,160,[uZ,uZ,uZ,uZ,uZ,uZ,uZ,uZ,uZ,uZ,uZ,uZ,uZ,uZ,uZ,uZ,uZ,uZ,uZ,uZ,uZ,uZ,uZ,uZ,uZ,uZ,uZ,uZ,uZ,uZ,uZ,uZ,uZ,uZ,uZ,uZ,uZ,uZ,uZ,uZ,uZ,uZ,uZ,uZ,uZ,uZ,uZ,uZ,uZ,uZ,uZ,uZ,uZ,uZ,uZ,uZ,uZ,uZ,uZ,uZ,uZ,uZ,uZ,uZ,uZ,uZ,uZ,uZ,uZ,uZ,uZ,uZ,uZ,uZ,uZ,uZ,uZ,uZ,uZ,uZ,uZ,uZ,uZ,uZ,uZ,uZ,uZ,uZ,uZ,uZ,uZ,uZ,uZ,uZ,uZ,uZ,uZ,uZ,uZ,uZ,uZ,uZ,uZ,uZ,uZ,uZ,uZ,uZ,uZ,uZ,uZ,uZ,uZ,uZ,uZ,uZ,uZ,uZ,uZ,uZ,uZ,uZ,uZ,uZ,uZ,uZ,uZ,uZ,uZ,uZ,uZ,uZ,uZ,uZ,uZ,uZ,uZ,uZ,uZ,uZ,uZ,uZ,uZ,uZ,uZ,uZ,uZ,uZ,uZ,uZ,uZ,uZ,uZ,uZ,uZ,uZ,uZ,uZ,uZ,uZ]⟩,
 some ⟨.array 4 4,4,4,[bZ,bZ,bZ,bZ]⟩,
 some ⟨.array 16 3,16,128,[iZ,iZ,iZ,iZ,iZ,iZ,iZ,iZ,iZ,iZ,iZ,iZ,iZ,iZ,iZ,iZ]⟩,
 some ⟨.array 10 286,160,1280,[iZ,iZ,iZ,iZ,iZ,iZ,iZ,iZ,iZ,iZ,iZ,iZ,iZ,iZ,iZ,iZ,iZ,iZ,iZ,iZ,iZ,iZ,iZ,iZ,iZ,iZ,iZ,iZ,iZ,iZ,iZ,iZ,iZ,iZ,iZ,iZ,iZ,iZ,iZ,iZ,iZ,iZ,iZ,iZ,iZ,iZ,iZ,iZ,iZ,iZ,iZ,iZ,iZ,iZ,iZ,iZ,iZ,iZ,iZ,iZ,iZ,iZ,iZ,iZ,iZ,iZ,iZ,iZ,iZ,iZ,iZ,iZ,iZ,iZ,iZ,iZ,iZ,iZ,iZ,iZ,iZ,iZ,iZ,iZ,iZ,iZ,iZ,iZ,iZ,iZ,iZ,iZ,iZ,iZ,iZ,iZ,iZ,iZ,iZ,iZ,iZ,iZ,iZ,iZ,iZ,iZ,iZ,iZ,iZ,iZ,iZ,iZ,iZ,iZ,iZ,iZ,iZ,iZ,iZ,iZ,iZ,iZ,iZ,iZ,iZ,iZ,iZ,iZ,iZ,iZ,iZ,iZ,iZ,iZ,iZ,iZ,iZ,iZ,iZ,iZ,iZ,iZ,iZ,iZ,iZ,iZ,iZ,iZ,iZ,iZ,iZ,iZ,iZ,iZ,iZ,iZ,iZ,iZ,iZ,iZ]⟩,
 none,
 some ⟨.array 4 3,4,32,[iZ,iZ,iZ,iZ]⟩,
 none,
 none,
 some ⟨.ptr 280,1,8,[.pointer none]⟩,
 none,
 none,
 none,
 none,
 some ⟨.array 0 16,0,0,[]⟩,
 none,
 some ⟨.struct [(0,297)],0,0,[]⟩,
 none,
 some ⟨.int .u8,1,1,[uZ]⟩,
 some ⟨.int .u8,1,1,[uZ]⟩,
 tF,
 some ⟨.ptr 5,1,8,[.pointer none]⟩,
 some ⟨.int .i32,1,4,[.int .i32 0]⟩,
 some ⟨.int .i32,1,4,[.int .i32 0]⟩,
 none,
 some ⟨.struct [(0,12),(1,12),(2,189),(3,301),(4,5),(5,5),(6,302),(7,303),(8,304),(9,305),(10,306)],11,48,[.int .u64 0,.int .u64 0,wZ,uZ,uZ,uZ,uZ,.nilFunc,.pointer none,.int .i32 0,.int .i32 0]⟩]
def aj_:Tab:=fun T=>iz_[T]?.bind id
def AllOk (P:Program):Nat→List (Option TE)→Prop
 | _,[]=>True
 | n,none::l=>AllOk P (n+1) l
 | n,some e::l=>TyOk P n e∧AllOk P (n+1) l
theorem AllOk.at {P:Program}:∀ (l:List (Option TE)) (n i:Nat) (e:TE),AllOk P n l→l[i]? = some (some e)→TyOk P (n+i) e
 | [],_,_,_,_,h=>by simp at h
 | none::l,n,0,_,_,h=>by simp at h
 | none::l,n,i+1,e,h,hi=>by have:=AllOk.at l (n+1) i e h (by simpa using hi);rwa[Nat.add_assoc,Nat.add_comm 1 i] at this
 | some d::l,n,0,e,h,hi=>by simp at hi;subst hi;exact h.1
 | some d::l,n,i+1,e,h,hi=>by have:=AllOk.at l (n+1) i e h.2 (by simpa using hi);rwa[Nat.add_assoc,Nat.add_comm 1 i] at this
@[simp] theorem Em_:aj_ 1=some ⟨.func,1,8,[.nilFunc]⟩:=rfl
@[simp] theorem El_:aj_ 2=some ⟨.int .i64,1,8,[iZ]⟩:=rfl
@[simp] theorem yW_:aj_ 3=some ⟨.int .i64,1,8,[iZ]⟩:=rfl
@[simp] theorem Ek_:aj_ 4=some ⟨.bool,1,1,[bZ]⟩:=rfl
@[simp] theorem uu_:aj_ 5=some ⟨.int .u8,1,1,[uZ]⟩:=rfl
@[simp] theorem Ej_:aj_ 6=some ⟨.int .u8,1,1,[uZ]⟩:=rfl
@[simp] theorem Ei_:aj_ 7=some ⟨.struct [(0,2),(1,3),(2,4),(3,6)],4,24,[iZ,iZ,bZ,uZ]⟩:=rfl
@[simp] theorem Eh_:aj_ 8=some ⟨.struct [(0,2),(1,3),(2,4),(3,6)],4,24,[iZ,iZ,bZ,uZ]⟩:=rfl
@[simp] theorem Eg_:aj_ 9=some ⟨.string,1,16,[sZ]⟩:=rfl
@[simp] theorem Dn_:aj_ 10=some ⟨.string,1,16,[sZ]⟩:=rfl
@[simp] theorem Dm_:aj_ 11=some ⟨.string,1,16,[sZ]⟩:=rfl
@[simp] theorem Dl_:aj_ 12=some ⟨.int .u64,1,8,[.int .u64 0]⟩:=rfl
@[simp] theorem Dk_:aj_ 13=some ⟨.struct [(0,9),(1,12)],2,24,[sZ,.int .u64 0]⟩:=rfl
@[simp] theorem Dj_:aj_ 16=some ⟨.ptr 299,1,8,[.pointer none]⟩:=rfl
@[simp] theorem Di_:aj_ 17=some ⟨.ptr 308,1,8,[.pointer none]⟩:=rfl
@[simp] theorem Dh_:aj_ 18=some ⟨.struct [(0,17)],1,8,[.pointer none]⟩:=rfl
@[simp] theorem Dg_:aj_ 19=some ⟨.struct [(0,17)],1,8,[.pointer none]⟩:=rfl
@[simp] theorem Df_:aj_ 20=some ⟨.iface,1,16,[.nilIface]⟩:=rfl
@[simp] theorem ws_:aj_ 22=some ⟨.slice 76,1,24,[nZ]⟩:=rfl
@[simp] theorem wr_:aj_ 23=some ⟨.slice 63,1,24,[nZ]⟩:=rfl
@[simp] theorem wq_:aj_ 25=some ⟨.struct [(0,23)],1,24,[nZ]⟩:=rfl
@[simp] theorem De_:aj_ 26=some ⟨.func,1,8,[.nilFunc]⟩:=rfl
@[simp] theorem Dd_:aj_ 29=some ⟨.int .i64,1,8,[iZ]⟩:=rfl
@[simp] theorem Dc_:aj_ 32=some ⟨.func,1,8,[.nilFunc]⟩:=rfl
@[simp] theorem Db_:aj_ 33=some ⟨.struct [(0,3),(1,3),(2,3),(3,3),(4,3),(5,3),(6,3),(7,3)],8,64,[iZ,iZ,iZ,iZ,iZ,iZ,iZ,iZ]⟩:=rfl
@[simp] theorem Da_:aj_ 34=some ⟨.struct [(0,3),(1,3),(2,3),(3,3),(4,3),(5,3),(6,3),(7,3)],8,64,[iZ,iZ,iZ,iZ,iZ,iZ,iZ,iZ]⟩:=rfl
@[simp] theorem C9_:aj_ 36=some ⟨.struct [(0,3),(1,3),(2,3),(3,3)],4,32,[iZ,iZ,iZ,iZ]⟩:=rfl
@[simp] theorem C8_:aj_ 38=some ⟨.struct [(0,3),(1,3),(2,3),(3,3),(4,3)],5,40,[iZ,iZ,iZ,iZ,iZ]⟩:=rfl
@[simp] theorem C7_:aj_ 39=some ⟨.struct [(0,3),(1,3),(2,3),(3,3),(4,3),(5,3),(6,3),(7,3)],8,64,[iZ,iZ,iZ,iZ,iZ,iZ,iZ,iZ]⟩:=rfl
@[simp] theorem C6_:aj_ 40=some ⟨.struct [(0,3),(1,3),(2,3),(3,3),(4,3),(5,3),(6,3),(7,3)],8,64,[iZ,iZ,iZ,iZ,iZ,iZ,iZ,iZ]⟩:=rfl
@[simp] theorem C5_:aj_ 42=some ⟨.struct [(0,3),(1,3),(2,3),(3,3)],4,32,[iZ,iZ,iZ,iZ]⟩:=rfl
@[simp] theorem C4_:aj_ 44=some ⟨.struct [(0,3),(1,3),(2,3),(3,3)],4,32,[iZ,iZ,iZ,iZ]⟩:=rfl
@[simp] theorem C3_:aj_ 46=some ⟨.struct [(0,3),(1,3)],2,16,[iZ,iZ]⟩:=rfl
@[simp] theorem C2_:aj_ 47=some ⟨.struct [(0,3),(1,3),(2,3),(3,3)],4,32,[iZ,iZ,iZ,iZ]⟩:=rfl
@[simp] theorem C1_:aj_ 48=some ⟨.struct [(0,3),(1,3),(2,3),(3,3)],4,32,[iZ,iZ,iZ,iZ]⟩:=rfl
@[simp] theorem C0_:aj_ 50=some ⟨.struct [(0,3),(1,3),(2,3),(3,3)],4,32,[iZ,iZ,iZ,iZ]⟩:=rfl
@[simp] theorem CZ_:aj_ 52=some ⟨.struct [(0,3),(1,3),(2,3),(3,3),(4,3),(5,3)],6,48,[iZ,iZ,iZ,iZ,iZ,iZ]⟩:=rfl
@[simp] theorem CY_:aj_ 54=some ⟨.struct [(0,3),(1,4)],2,16,[iZ,bZ]⟩:=rfl
@[simp] theorem CX_:aj_ 56=some ⟨.struct [(0,3),(1,3)],2,16,[iZ,iZ]⟩:=rfl
@[simp] theorem CW_:aj_ 58=some ⟨.struct [(0,3),(1,3),(2,3),(3,3),(4,34),(12,36),(16,38),(21,40),(29,42),(33,44),(37,46),(39,48),(43,50),(47,52),(53,54),(55,56)],57,456,[iZ,iZ,iZ,iZ,iZ,iZ,iZ,iZ,iZ,iZ,iZ,iZ,iZ,iZ,iZ,iZ,iZ,iZ,iZ,iZ,iZ,iZ,iZ,iZ,iZ,iZ,iZ,iZ,iZ,iZ,iZ,iZ,iZ,iZ,iZ,iZ,iZ,iZ,iZ,iZ,iZ,iZ,iZ,iZ,iZ,iZ,iZ,iZ,iZ,iZ,iZ,iZ,iZ,iZ,bZ,iZ,iZ]⟩:=rfl
@[simp] theorem wp_:aj_ 59=some ⟨.slice 74,1,24,[nZ]⟩:=rfl
@[simp] theorem wo_:aj_ 61=some ⟨.struct [(0,3),(1,59),(2,59),(3,59)],4,80,[iZ,nZ,nZ,nZ]⟩:=rfl
@[simp] theorem wn_:aj_ 63=some ⟨.struct [(0,58),(57,61)],61,536,[iZ,iZ,iZ,iZ,iZ,iZ,iZ,iZ,iZ,iZ,iZ,iZ,iZ,iZ,iZ,iZ,iZ,iZ,iZ,iZ,iZ,iZ,iZ,iZ,iZ,iZ,iZ,iZ,iZ,iZ,iZ,iZ,iZ,iZ,iZ,iZ,iZ,iZ,iZ,iZ,iZ,iZ,iZ,iZ,iZ,iZ,iZ,iZ,iZ,iZ,iZ,iZ,iZ,iZ,bZ,iZ,iZ,iZ,nZ,nZ,nZ]⟩:=rfl
@[simp] theorem CV_:aj_ 64=some ⟨.func,1,8,[.nilFunc]⟩:=rfl
@[simp] theorem CU_:aj_ 66=some ⟨.struct [(0,63),(61,63)],122,1072,[iZ,iZ,iZ,iZ,iZ,iZ,iZ,iZ,iZ,iZ,iZ,iZ,iZ,iZ,iZ,iZ,iZ,iZ,iZ,iZ,iZ,iZ,iZ,iZ,iZ,iZ,iZ,iZ,iZ,iZ,iZ,iZ,iZ,iZ,iZ,iZ,iZ,iZ,iZ,iZ,iZ,iZ,iZ,iZ,iZ,iZ,iZ,iZ,iZ,iZ,iZ,iZ,iZ,iZ,bZ,iZ,iZ,iZ,nZ,nZ,nZ,iZ,iZ,iZ,iZ,iZ,iZ,iZ,iZ,iZ,iZ,iZ,iZ,iZ,iZ,iZ,iZ,iZ,iZ,iZ,iZ,iZ,iZ,iZ,iZ,iZ,iZ,iZ,iZ,iZ,iZ,iZ,iZ,iZ,iZ,iZ,iZ,iZ,iZ,iZ,iZ,iZ,iZ,iZ,iZ,iZ,iZ,iZ,iZ,iZ,iZ,iZ,iZ,iZ,iZ,bZ,iZ,iZ,iZ,nZ,nZ,nZ]⟩:=rfl
@[simp] theorem CT_:aj_ 70=some ⟨.slice 56,1,24,[nZ]⟩:=rfl
@[simp] theorem CS_:aj_ 71=some ⟨.func,1,8,[.nilFunc]⟩:=rfl
@[simp] theorem ll_:aj_ 74=some ⟨.array 32 5,32,32,[uZ,uZ,uZ,uZ,uZ,uZ,uZ,uZ,uZ,uZ,uZ,uZ,uZ,uZ,uZ,uZ,uZ,uZ,uZ,uZ,uZ,uZ,uZ,uZ,uZ,uZ,uZ,uZ,uZ,uZ,uZ,uZ]⟩:=rfl
@[simp] theorem wm_:aj_ 76=some ⟨.struct [(0,74),(32,3)],33,40,[uZ,uZ,uZ,uZ,uZ,uZ,uZ,uZ,uZ,uZ,uZ,uZ,uZ,uZ,uZ,uZ,uZ,uZ,uZ,uZ,uZ,uZ,uZ,uZ,uZ,uZ,uZ,uZ,uZ,uZ,uZ,uZ,iZ]⟩:=rfl
@[simp] theorem CR_:aj_ 78=some ⟨.slice 25,1,24,[nZ]⟩:=rfl
@[simp] theorem CQ_:aj_ 80=some ⟨.map 56 4,1,8,[.map none]⟩:=rfl
@[simp] theorem CP_:aj_ 82=some ⟨.func,1,8,[.nilFunc]⟩:=rfl
@[simp] theorem CO_:aj_ 83=some ⟨.slice 66,1,24,[nZ]⟩:=rfl
@[simp] theorem CN_:aj_ 87=some ⟨.map 3 3,1,8,[.map none]⟩:=rfl
@[simp] theorem CM_:aj_ 88=some ⟨.func,1,8,[.nilFunc]⟩:=rfl
@[simp] theorem CL_:aj_ 90=some ⟨.slice 3,1,24,[nZ]⟩:=rfl
@[simp] theorem CK_:aj_ 92=some ⟨.func,1,8,[.nilFunc]⟩:=rfl
@[simp] theorem CJ_:aj_ 93=some ⟨.func,1,8,[.nilFunc]⟩:=rfl
@[simp] theorem CI_:aj_ 95=some ⟨.map 58 4,1,8,[.map none]⟩:=rfl
@[simp] theorem CH_:aj_ 97=some ⟨.func,1,8,[.nilFunc]⟩:=rfl
@[simp] theorem B6_:aj_ 101=some ⟨.func,1,8,[.nilFunc]⟩:=rfl
@[simp] theorem B5_:aj_ 103=some ⟨.slice 58,1,24,[nZ]⟩:=rfl
@[simp] theorem B4_:aj_ 110=some ⟨.map 136 23,1,8,[.map none]⟩:=rfl
@[simp] theorem B3_:aj_ 111=some ⟨.func,1,8,[.nilFunc]⟩:=rfl
@[simp] theorem B2_:aj_ 113=some ⟨.func,1,8,[.nilFunc]⟩:=rfl
@[simp] theorem B1_:aj_ 114=some ⟨.func,1,8,[.nilFunc]⟩:=rfl
@[simp] theorem B0_:aj_ 117=some ⟨.slice 23,1,24,[nZ]⟩:=rfl
@[simp] theorem BZ_:aj_ 119=some ⟨.func,1,8,[.nilFunc]⟩:=rfl
@[simp] theorem BY_:aj_ 120=some ⟨.func,1,8,[.nilFunc]⟩:=rfl
@[simp] theorem BX_:aj_ 121=some ⟨.func,1,8,[.nilFunc]⟩:=rfl
@[simp] theorem BW_:aj_ 123=some ⟨.func,1,8,[.nilFunc]⟩:=rfl
@[simp] theorem BV_:aj_ 124=some ⟨.func,1,8,[.nilFunc]⟩:=rfl
@[simp] theorem BU_:aj_ 129=some ⟨.func,1,8,[.nilFunc]⟩:=rfl
@[simp] theorem BT_:aj_ 131=some ⟨.func,1,8,[.nilFunc]⟩:=rfl
@[simp] theorem BS_:aj_ 136=some ⟨.struct [(0,3),(1,3)],2,16,[iZ,iZ]⟩:=rfl
@[simp] theorem BR_:aj_ 143=some ⟨.func,1,8,[.nilFunc]⟩:=rfl
@[simp] theorem BQ_:aj_ 144=some ⟨.slice 136,1,24,[nZ]⟩:=rfl
@[simp] theorem BP_:aj_ 146=some ⟨.func,1,8,[.nilFunc]⟩:=rfl
@[simp] theorem BO_:aj_ 151=some ⟨.int .u64,1,8,[.int .u64 0]⟩:=rfl
@[simp] theorem BN_:aj_ 154=some ⟨.func,1,8,[.nilFunc]⟩:=rfl
@[simp] theorem BM_:aj_ 157=some ⟨.slice 5,1,24,[nZ]⟩:=rfl
@[simp] theorem BL_:aj_ 166=some ⟨.slice 178,1,24,[nZ]⟩:=rfl
@[simp] theorem BK_:aj_ 168=some ⟨.struct [(0,166),(1,26)],2,32,[nZ,.nilFunc]⟩:=rfl
@[simp] theorem BJ_:aj_ 171=some ⟨.ptr 58,1,8,[.pointer none]⟩:=rfl
@[simp] theorem BI_:aj_ 172=some ⟨.ptr 3,1,8,[.pointer none]⟩:=rfl
@[simp] theorem BH_:aj_ 174=some ⟨.func,1,8,[.nilFunc]⟩:=rfl
@[simp] theorem BG_:aj_ 176=some ⟨.struct [(0,3),(1,3)],2,16,[iZ,iZ]⟩:=rfl
@[simp] theorem BF_:aj_ 178=some ⟨.struct [(0,172),(1,176)],3,24,[.pointer none,iZ,iZ]⟩:=rfl
@[simp] theorem BE_:aj_ 181=some ⟨.int .i64,1,8,[iZ]⟩:=rfl
@[simp] theorem BD_:aj_ 189=some ⟨.int .u32,1,4,[wZ]⟩:=rfl
@[simp] theorem BC_:aj_ 191=some ⟨.int .u64,1,8,[.int .u64 0]⟩:=rfl
@[simp] theorem BB_:aj_ 195=some ⟨.array 64 4,64,64,[bZ,bZ,bZ,bZ,bZ,bZ,bZ,bZ,bZ,bZ,bZ,bZ,bZ,bZ,bZ,bZ,bZ,bZ,bZ,bZ,bZ,bZ,bZ,bZ,bZ,bZ,bZ,bZ,bZ,bZ,bZ,bZ,bZ,bZ,bZ,bZ,bZ,bZ,bZ,bZ,bZ,bZ,bZ,bZ,bZ,bZ,bZ,bZ,bZ,bZ,bZ,bZ,bZ,bZ,bZ,bZ,bZ,bZ,bZ,bZ,bZ,bZ,bZ,bZ]⟩:=rfl
@[simp] theorem BA_:aj_ 198=some ⟨.func,1,8,[.nilFunc]⟩:=rfl
@[simp] theorem Bz_:aj_ 203=some ⟨.slice 205,1,24,[nZ]⟩:=rfl
@[simp] theorem By_:aj_ 205=some ⟨.struct [(0,3),(1,3),(2,9),(3,203)],4,56,[iZ,iZ,sZ,nZ]⟩:=rfl
@[simp] theorem Bx_:aj_ 207=some ⟨.slice 4,1,24,[nZ]⟩:=rfl
@[simp] theorem Bw_:aj_ 215=some ⟨.ptr 34,1,8,[.pointer none]⟩:=rfl
@[simp] theorem Bv_:aj_ 216=some ⟨.ptr 36,1,8,[.pointer none]⟩:=rfl
@[simp] theorem Bu_:aj_ 217=some ⟨.ptr 38,1,8,[.pointer none]⟩:=rfl
@[simp] theorem Bt_:aj_ 218=some ⟨.ptr 40,1,8,[.pointer none]⟩:=rfl
@[simp] theorem Bs_:aj_ 219=some ⟨.ptr 42,1,8,[.pointer none]⟩:=rfl
@[simp] theorem Br_:aj_ 220=some ⟨.ptr 44,1,8,[.pointer none]⟩:=rfl
@[simp] theorem Bq_:aj_ 221=some ⟨.ptr 46,1,8,[.pointer none]⟩:=rfl
@[simp] theorem Bp_:aj_ 222=some ⟨.ptr 48,1,8,[.pointer none]⟩:=rfl
@[simp] theorem Bo_:aj_ 223=some ⟨.ptr 50,1,8,[.pointer none]⟩:=rfl
@[simp] theorem Bn_:aj_ 224=some ⟨.ptr 52,1,8,[.pointer none]⟩:=rfl
@[simp] theorem Bm_:aj_ 230=some ⟨.int .u64,1,8,[.int .u64 0]⟩:=rfl
@[simp] theorem Bl_:aj_ 246=some ⟨.func,1,8,[.nilFunc]⟩:=rfl
@[simp] theorem Bk_:aj_ 248=some ⟨.struct [(0,246)],1,8,[.nilFunc]⟩:=rfl
@[simp] theorem Bj_:aj_ 249=some ⟨.ptr 269,1,8,[.pointer none]⟩:=rfl
@[simp] theorem Bi_:aj_ 257=some ⟨.ptr 230,1,8,[.pointer none]⟩:=rfl
@[simp] theorem Bh_:aj_ 262=some ⟨.slice 157,1,24,[nZ]⟩:=rfl
@[simp] theorem Bg_:aj_ 264=some ⟨.array 8 189,8,32,[wZ,wZ,wZ,wZ,wZ,wZ,wZ,wZ]⟩:=rfl
@[simp] theorem Bf_:aj_ 266=some ⟨.ptr 264,1,8,[.pointer none]⟩:=rfl
@[simp] theorem Be_:aj_ 269=some ⟨.array 4 248,4,32,[.nilFunc,.nilFunc,.nilFunc,.nilFunc]⟩:=rfl
@[simp] theorem Bd_:aj_ 279=some ⟨.array 16 189,16,64,[wZ,wZ,wZ,wZ,wZ,wZ,wZ,wZ,wZ,wZ,wZ,wZ,wZ,wZ,wZ,wZ]⟩:=rfl
@[simp] theorem Bc_:aj_ 280=some ⟨.array 16 189,16,64,[wZ,wZ,wZ,wZ,wZ,wZ,wZ,wZ,wZ,wZ,wZ,wZ,wZ,wZ,wZ,wZ]⟩:=rfl
@[simp] theorem Bb_:aj_ 281=some ⟨.slice 189,1,24,[nZ]⟩:=rfl
@[simp] theorem Ba_:aj_ 282=some ⟨.func,1,8,[.nilFunc]⟩:=rfl
@[simp] theorem A9_:aj_ 283=some ⟨.array 16 5,16,16,[uZ,uZ,uZ,uZ,uZ,uZ,uZ,uZ,uZ,uZ,uZ,uZ,uZ,uZ,uZ,uZ]⟩:=rfl
@[simp] theorem A8_:aj_ 284=some ⟨.array 10 283,160,160,[uZ,uZ,uZ,uZ,uZ,uZ,uZ,uZ,uZ,uZ,uZ,uZ,uZ,uZ,uZ,uZ,uZ,uZ,uZ,uZ,uZ,uZ,uZ,uZ,uZ,uZ,uZ,uZ,uZ,uZ,uZ,uZ,uZ,uZ,uZ,uZ,uZ,uZ,uZ,uZ,uZ,uZ,uZ,uZ,uZ,uZ,uZ,uZ,uZ,uZ,uZ,uZ,uZ,uZ,uZ,uZ,uZ,uZ,uZ,uZ,uZ,uZ,uZ,uZ,uZ,uZ,uZ,uZ,uZ,uZ,uZ,uZ,uZ,uZ,uZ,uZ,uZ,uZ,uZ,uZ,uZ,uZ,uZ,uZ,uZ,uZ,uZ,uZ,uZ,uZ,uZ,uZ,uZ,uZ,uZ,uZ,uZ,uZ,uZ,uZ,uZ,uZ,uZ,uZ,uZ,uZ,uZ,uZ,uZ,uZ,uZ,uZ,uZ,uZ,uZ,uZ,uZ,uZ,uZ,uZ,uZ,uZ,uZ,uZ,uZ,uZ,uZ,uZ,uZ,uZ,uZ,uZ,uZ,uZ,uZ,uZ,uZ,uZ,uZ,uZ,uZ,uZ,uZ,uZ,uZ,uZ,uZ,uZ,uZ,uZ,uZ,uZ,uZ,uZ,uZ,uZ,uZ,uZ,uZ,uZ]⟩:=rfl
@[simp] theorem A7_:aj_ 285=some ⟨.array 4 4,4,4,[bZ,bZ,bZ,bZ]⟩:=rfl
@[simp] theorem A6_:aj_ 286=some ⟨.array 16 3,16,128,[iZ,iZ,iZ,iZ,iZ,iZ,iZ,iZ,iZ,iZ,iZ,iZ,iZ,iZ,iZ,iZ]⟩:=rfl
@[simp] theorem A5_:aj_ 287=some ⟨.array 10 286,160,1280,[iZ,iZ,iZ,iZ,iZ,iZ,iZ,iZ,iZ,iZ,iZ,iZ,iZ,iZ,iZ,iZ,iZ,iZ,iZ,iZ,iZ,iZ,iZ,iZ,iZ,iZ,iZ,iZ,iZ,iZ,iZ,iZ,iZ,iZ,iZ,iZ,iZ,iZ,iZ,iZ,iZ,iZ,iZ,iZ,iZ,iZ,iZ,iZ,iZ,iZ,iZ,iZ,iZ,iZ,iZ,iZ,iZ,iZ,iZ,iZ,iZ,iZ,iZ,iZ,iZ,iZ,iZ,iZ,iZ,iZ,iZ,iZ,iZ,iZ,iZ,iZ,iZ,iZ,iZ,iZ,iZ,iZ,iZ,iZ,iZ,iZ,iZ,iZ,iZ,iZ,iZ,iZ,iZ,iZ,iZ,iZ,iZ,iZ,iZ,iZ,iZ,iZ,iZ,iZ,iZ,iZ,iZ,iZ,iZ,iZ,iZ,iZ,iZ,iZ,iZ,iZ,iZ,iZ,iZ,iZ,iZ,iZ,iZ,iZ,iZ,iZ,iZ,iZ,iZ,iZ,iZ,iZ,iZ,iZ,iZ,iZ,iZ,iZ,iZ,iZ,iZ,iZ,iZ,iZ,iZ,iZ,iZ,iZ,iZ,iZ,iZ,iZ,iZ,iZ,iZ,iZ,iZ,iZ,iZ,iZ]⟩:=rfl
@[simp] theorem A4_:aj_ 289=some ⟨.array 4 3,4,32,[iZ,iZ,iZ,iZ]⟩:=rfl
@[simp] theorem A3_:aj_ 292=some ⟨.ptr 280,1,8,[.pointer none]⟩:=rfl
@[simp] theorem A2_:aj_ 297=some ⟨.array 0 16,0,0,[]⟩:=rfl
@[simp] theorem A1_:aj_ 299=some ⟨.struct [(0,297)],0,0,[]⟩:=rfl
@[simp] theorem A0_:aj_ 301=some ⟨.int .u8,1,1,[uZ]⟩:=rfl
@[simp] theorem AZ_:aj_ 302=some ⟨.int .u8,1,1,[uZ]⟩:=rfl
@[simp] theorem AY_:aj_ 303=some ⟨.func,1,8,[.nilFunc]⟩:=rfl
@[simp] theorem AX_:aj_ 304=some ⟨.ptr 5,1,8,[.pointer none]⟩:=rfl
@[simp] theorem AW_:aj_ 305=some ⟨.int .i32,1,4,[.int .i32 0]⟩:=rfl
@[simp] theorem AV_:aj_ 306=some ⟨.int .i32,1,4,[.int .i32 0]⟩:=rfl
@[simp] theorem AU_:aj_ 308=some ⟨.struct [(0,12),(1,12),(2,189),(3,301),(4,5),(5,5),(6,302),(7,303),(8,304),(9,305),(10,306)],11,48,[.int .u64 0,.int .u64 0,wZ,uZ,uZ,uZ,uZ,.nilFunc,.pointer none,.int .i32 0,.int .i32 0]⟩:=rfl
set_option maxRecDepth 100000 in
/-- A type's entry is right, by looking. -/
theorem tyS {P:Program} {T:Nat} {e:TE} (i:TypeInfo) {d:TypeDesc} (hu:P.underlying T=some d) (hk:e.k.ok d:=by first|rfl|exact⟨_,rfl,rfl⟩|exact⟨_,_,_,rfl⟩|exact⟨_,rfl⟩) (hi:P.info? T=some i:=by kernel_rfl)
  (h:∃ z,i.size=e.size∧i.bytes=e.bytes∧i.zero=some z∧z.cells.toList=e.zero∧e.zero.length=e.size∧e.zero.all (·.oneCell')=true:=by exact⟨_,rfl,rfl,rfl,rfl,rfl,rfl⟩):TyOk P T e:=⟨⟨i,h.choose,hi,h.choose_spec⟩,⟨d,hu,hk⟩⟩
set_option maxRecDepth 20000 in
theorem aa_:aq_ Tryz.prog aj_:=by
 intro T e h
 have hL:AllOk Tryz.prog 0 iz_:=by
  unfold iz_
  refine⟨tyS Tryz.t1 Tryz.underlying1,?_⟩
  refine⟨tyS Tryz.t2 Tryz.underlying2,?_⟩
  refine⟨tyS Tryz.t3 Tryz.underlying3,?_⟩
  refine⟨tyS Tryz.t4 Tryz.underlying4,?_⟩
  refine⟨tyS Tryz.t5 Tryz.underlying5,?_⟩
  refine⟨tyS Tryz.t6 Tryz.underlying6,?_⟩
  refine⟨tyS Tryz.t7 Tryz.underlying7,?_⟩
  refine⟨tyS Tryz.t8 Tryz.underlying8,?_⟩
  refine⟨tyS Tryz.t9 Tryz.underlying9,?_⟩
  refine⟨tyS Tryz.t10 Tryz.underlying10,?_⟩
  refine⟨tyS Tryz.t11 Tryz.underlying11,?_⟩
  refine⟨tyS Tryz.t12 Tryz.underlying12,?_⟩
  refine⟨tyS Tryz.t13 Tryz.underlying13,?_⟩
  refine⟨tyS Tryz.t16 Tryz.underlying16,?_⟩
  refine⟨tyS Tryz.t17 Tryz.underlying17,?_⟩
  refine⟨tyS Tryz.t18 Tryz.underlying18,?_⟩
  refine⟨tyS Tryz.t19 Tryz.underlying19,?_⟩
  refine⟨tyS Tryz.t20 Tryz.underlying20,?_⟩
  refine⟨tyS Tryz.t22 Tryz.underlying22,?_⟩
  refine⟨tyS Tryz.t23 Tryz.underlying23,?_⟩
  refine⟨tyS Tryz.t25 Tryz.underlying25,?_⟩
  refine⟨tyS Tryz.t26 Tryz.underlying26,?_⟩
  refine⟨tyS Tryz.t29 Tryz.underlying29,?_⟩
  refine⟨tyS Tryz.t32 Tryz.underlying32,?_⟩
  refine⟨tyS Tryz.t33 Tryz.underlying33,?_⟩
  refine⟨tyS Tryz.t34 Tryz.underlying34,?_⟩
  refine⟨tyS Tryz.t36 Tryz.underlying36,?_⟩
  refine⟨tyS Tryz.t38 Tryz.underlying38,?_⟩
  refine⟨tyS Tryz.t39 Tryz.underlying39,?_⟩
  refine⟨tyS Tryz.t40 Tryz.underlying40,?_⟩
  refine⟨tyS Tryz.t42 Tryz.underlying42,?_⟩
  refine⟨tyS Tryz.t44 Tryz.underlying44,?_⟩
  refine⟨tyS Tryz.t46 Tryz.underlying46,?_⟩
  refine⟨tyS Tryz.t47 Tryz.underlying47,?_⟩
  refine⟨tyS Tryz.t48 Tryz.underlying48,?_⟩
  refine⟨tyS Tryz.t50 Tryz.underlying50,?_⟩
  refine⟨tyS Tryz.t52 Tryz.underlying52,?_⟩
  refine⟨tyS Tryz.t54 Tryz.underlying54,?_⟩
  refine⟨tyS Tryz.t56 Tryz.underlying56,?_⟩
  refine⟨tyS Tryz.t58 Tryz.underlying58,?_⟩
  refine⟨tyS Tryz.t59 Tryz.underlying59,?_⟩
  refine⟨tyS Tryz.t61 Tryz.underlying61,?_⟩
  refine⟨tyS Tryz.t63 Tryz.underlying63,?_⟩
  refine⟨tyS Tryz.t64 Tryz.underlying64,?_⟩
  refine⟨tyS Tryz.t66 Tryz.underlying66,?_⟩
  refine⟨tyS Tryz.t70 Tryz.underlying70,?_⟩
  refine⟨tyS Tryz.t71 Tryz.underlying71,?_⟩
  refine⟨tyS Tryz.t74 Tryz.underlying74,?_⟩
  refine⟨tyS Tryz.t76 Tryz.underlying76,?_⟩
  refine⟨tyS Tryz.t78 Tryz.underlying78,?_⟩
  refine⟨tyS Tryz.t80 Tryz.underlying80,?_⟩
  refine⟨tyS Tryz.t82 Tryz.underlying82,?_⟩
  refine⟨tyS Tryz.t83 Tryz.underlying83,?_⟩
  refine⟨tyS Tryz.t87 Tryz.underlying87,?_⟩
  refine⟨tyS Tryz.t88 Tryz.underlying88,?_⟩
  refine⟨tyS Tryz.t90 Tryz.underlying90,?_⟩
  refine⟨tyS Tryz.t92 Tryz.underlying92,?_⟩
  refine⟨tyS Tryz.t93 Tryz.underlying93,?_⟩
  refine⟨tyS Tryz.t95 Tryz.underlying95,?_⟩
  refine⟨tyS Tryz.t97 Tryz.underlying97,?_⟩
  refine⟨tyS Tryz.t101 Tryz.underlying101,?_⟩
  refine⟨tyS Tryz.t103 Tryz.underlying103,?_⟩
  refine⟨tyS Tryz.t110 Tryz.underlying110,?_⟩
  refine⟨tyS Tryz.t111 Tryz.underlying111,?_⟩
  refine⟨tyS Tryz.t113 Tryz.underlying113,?_⟩
  refine⟨tyS Tryz.t114 Tryz.underlying114,?_⟩
  refine⟨tyS Tryz.t117 Tryz.underlying117,?_⟩
  refine⟨tyS Tryz.t119 Tryz.underlying119,?_⟩
  refine⟨tyS Tryz.t120 Tryz.underlying120,?_⟩
  refine⟨tyS Tryz.t121 Tryz.underlying121,?_⟩
  refine⟨tyS Tryz.t123 Tryz.underlying123,?_⟩
  refine⟨tyS Tryz.t124 Tryz.underlying124,?_⟩
  refine⟨tyS Tryz.t129 Tryz.underlying129,?_⟩
  refine⟨tyS Tryz.t131 Tryz.underlying131,?_⟩
  refine⟨tyS Tryz.t136 Tryz.underlying136,?_⟩
  refine⟨tyS Tryz.t143 Tryz.underlying143,?_⟩
  refine⟨tyS Tryz.t144 Tryz.underlying144,?_⟩
  refine⟨tyS Tryz.t146 Tryz.underlying146,?_⟩
  refine⟨tyS Tryz.t151 Tryz.underlying151,?_⟩
  refine⟨tyS Tryz.t154 Tryz.underlying154,?_⟩
  refine⟨tyS Tryz.t157 Tryz.underlying157,?_⟩
  refine⟨tyS Tryz.t166 Tryz.underlying166,?_⟩
  refine⟨tyS Tryz.t168 Tryz.underlying168,?_⟩
  refine⟨tyS Tryz.t171 Tryz.underlying171,?_⟩
  refine⟨tyS Tryz.t172 Tryz.underlying172,?_⟩
  refine⟨tyS Tryz.t174 Tryz.underlying174,?_⟩
  refine⟨tyS Tryz.t176 Tryz.underlying176,?_⟩
  refine⟨tyS Tryz.t178 Tryz.underlying178,?_⟩
  refine⟨tyS Tryz.t181 Tryz.underlying181,?_⟩
  refine⟨tyS Tryz.t189 Tryz.underlying189,?_⟩
  refine⟨tyS Tryz.t191 Tryz.underlying191,?_⟩
  refine⟨tyS Tryz.t195 Tryz.underlying195,?_⟩
  refine⟨tyS Tryz.t198 Tryz.underlying198,?_⟩
  refine⟨tyS Tryz.t203 Tryz.underlying203,?_⟩
  refine⟨tyS Tryz.t205 Tryz.underlying205,?_⟩
  refine⟨tyS Tryz.t207 Tryz.underlying207,?_⟩
  refine⟨tyS Tryz.t215 Tryz.underlying215,?_⟩
  refine⟨tyS Tryz.t216 Tryz.underlying216,?_⟩
  refine⟨tyS Tryz.t217 Tryz.underlying217,?_⟩
  refine⟨tyS Tryz.t218 Tryz.underlying218,?_⟩
  refine⟨tyS Tryz.t219 Tryz.underlying219,?_⟩
  refine⟨tyS Tryz.t220 Tryz.underlying220,?_⟩
  refine⟨tyS Tryz.t221 Tryz.underlying221,?_⟩
  refine⟨tyS Tryz.t222 Tryz.underlying222,?_⟩
  refine⟨tyS Tryz.t223 Tryz.underlying223,?_⟩
  refine⟨tyS Tryz.t224 Tryz.underlying224,?_⟩
  refine⟨tyS Tryz.t230 Tryz.underlying230,?_⟩
  refine⟨tyS Tryz.t246 Tryz.underlying246,?_⟩
  refine⟨tyS Tryz.t248 Tryz.underlying248,?_⟩
  refine⟨tyS Tryz.t249 Tryz.underlying249,?_⟩
  refine⟨tyS Tryz.t257 Tryz.underlying257,?_⟩
  refine⟨tyS Tryz.t262 Tryz.underlying262,?_⟩
  refine⟨tyS Tryz.t264 Tryz.underlying264,?_⟩
  refine⟨tyS Tryz.t266 Tryz.underlying266,?_⟩
  refine⟨tyS Tryz.t269 Tryz.underlying269,?_⟩
  refine⟨tyS Tryz.t279 Tryz.underlying279,?_⟩
  refine⟨tyS Tryz.t280 Tryz.underlying280,?_⟩
  refine⟨tyS Tryz.t281 Tryz.underlying281,?_⟩
  refine⟨tyS Tryz.t282 Tryz.underlying282,?_⟩
  refine⟨tyS Tryz.t283 Tryz.underlying283,?_⟩
  refine⟨tyS Tryz.t284 Tryz.underlying284,?_⟩
  refine⟨tyS Tryz.t285 Tryz.underlying285,?_⟩
  refine⟨tyS Tryz.t286 Tryz.underlying286,?_⟩
  refine⟨tyS Tryz.t287 Tryz.underlying287,?_⟩
  refine⟨tyS Tryz.t289 Tryz.underlying289,?_⟩
  refine⟨tyS Tryz.t292 Tryz.underlying292,?_⟩
  refine⟨tyS Tryz.t297 Tryz.underlying297,?_⟩
  refine⟨tyS Tryz.t299 Tryz.underlying299,?_⟩
  refine⟨tyS Tryz.t301 Tryz.underlying301,?_⟩
  refine⟨tyS Tryz.t302 Tryz.underlying302,?_⟩
  refine⟨tyS Tryz.t303 Tryz.underlying303,?_⟩
  refine⟨tyS Tryz.t304 Tryz.underlying304,?_⟩
  refine⟨tyS Tryz.t305 Tryz.underlying305,?_⟩
  refine⟨tyS Tryz.t306 Tryz.underlying306,?_⟩
  refine⟨tyS Tryz.t308 Tryz.underlying308,?_⟩
  exact trivial
 unfold aj_ at h
 have h2:iz_[T]? = some (some e):=by
  cases ht:iz_[T]? with
  | none=>rw[ht] at h;cases h
  | some x=>rw[ht] at h;exact congrArg some h
 have:=AllOk.at _ 0 T e hL h2
 rwa[Nat.zero_add] at this
theorem eo_:Tryz.prog.follows .mixedOrders=true:=by kernel_rfl
theorem r0_:Body Tryz.prog 4:=⟨Tryz.f4,_,Tryz.func4,rfl,by kernel_rfl⟩
theorem rZ_:Body Tryz.prog 5:=⟨Tryz.f5,_,Tryz.func5,rfl,by kernel_rfl⟩
theorem j4_:Body Tryz.prog 6:=⟨Tryz.f6,_,Tryz.func6,rfl,by kernel_rfl⟩
theorem gu_:Body Tryz.prog 7:=⟨Tryz.f7,_,Tryz.func7,rfl,by kernel_rfl⟩
theorem rY_:Body Tryz.prog 8:=⟨Tryz.f8,_,Tryz.func8,rfl,by kernel_rfl⟩
theorem j3_:Body Tryz.prog 9:=⟨Tryz.f9,_,Tryz.func9,rfl,by kernel_rfl⟩
theorem dC_:Body Tryz.prog 10:=⟨Tryz.f10,_,Tryz.func10,rfl,by kernel_rfl⟩
theorem fa_:Body Tryz.prog 11:=⟨Tryz.f11,_,Tryz.func11,rfl,by kernel_rfl⟩
theorem iT_:Body Tryz.prog 12:=⟨Tryz.f12,_,Tryz.func12,rfl,by kernel_rfl⟩
theorem e9_:Body Tryz.prog 13:=⟨Tryz.f13,_,Tryz.func13,rfl,by kernel_rfl⟩
theorem e8_:Body Tryz.prog 14:=⟨Tryz.f14,_,Tryz.func14,rfl,by kernel_rfl⟩
theorem pm_:Body Tryz.prog 15:=⟨Tryz.f15,_,Tryz.func15,rfl,by kernel_rfl⟩
theorem iS_:Body Tryz.prog 16:=⟨Tryz.f16,_,Tryz.func16,rfl,by kernel_rfl⟩
theorem iR_:Body Tryz.prog 17:=⟨Tryz.f17,_,Tryz.func17,rfl,by kernel_rfl⟩
theorem pl_:Body Tryz.prog 18:=⟨Tryz.f18,_,Tryz.func18,rfl,by kernel_rfl⟩
theorem pk_:Body Tryz.prog 19:=⟨Tryz.f19,_,Tryz.func19,rfl,by kernel_rfl⟩
theorem pj_:Body Tryz.prog 20:=⟨Tryz.f20,_,Tryz.func20,rfl,by kernel_rfl⟩
theorem iQ_:Body Tryz.prog 21:=⟨Tryz.f21,_,Tryz.func21,rfl,by kernel_rfl⟩
theorem e7_:Body Tryz.prog 22:=⟨Tryz.f22,_,Tryz.func22,rfl,by kernel_rfl⟩
theorem pi_:Body Tryz.prog 23:=⟨Tryz.f23,_,Tryz.func23,rfl,by kernel_rfl⟩
theorem ph_:Body Tryz.prog 24:=⟨Tryz.f24,_,Tryz.func24,rfl,by kernel_rfl⟩
theorem pg_:Body Tryz.prog 25:=⟨Tryz.f25,_,Tryz.func25,rfl,by kernel_rfl⟩
theorem e6_:Body Tryz.prog 26:=⟨Tryz.f26,_,Tryz.func26,rfl,by kernel_rfl⟩
theorem pf_:Body Tryz.prog 27:=⟨Tryz.f27,_,Tryz.func27,rfl,by kernel_rfl⟩
theorem pe_:Body Tryz.prog 28:=⟨Tryz.f28,_,Tryz.func28,rfl,by kernel_rfl⟩
theorem pd_:Body Tryz.prog 29:=⟨Tryz.f29,_,Tryz.func29,rfl,by kernel_rfl⟩
theorem pc_:Body Tryz.prog 30:=⟨Tryz.f30,_,Tryz.func30,rfl,by kernel_rfl⟩
theorem pb_:Body Tryz.prog 31:=⟨Tryz.f31,_,Tryz.func31,rfl,by kernel_rfl⟩
theorem bg_:Body Tryz.prog 32:=⟨Tryz.f32,_,Tryz.func32,rfl,by kernel_rfl⟩
theorem e5_:Body Tryz.prog 33:=⟨Tryz.f33,_,Tryz.func33,rfl,by kernel_rfl⟩
theorem pa_:Body Tryz.prog 34:=⟨Tryz.f34,_,Tryz.func34,rfl,by kernel_rfl⟩
theorem iP_:Body Tryz.prog 35:=⟨Tryz.f35,_,Tryz.func35,rfl,by kernel_rfl⟩
theorem o9_:Body Tryz.prog 36:=⟨Tryz.f36,_,Tryz.func36,rfl,by kernel_rfl⟩
theorem o8_:Body Tryz.prog 37:=⟨Tryz.f37,_,Tryz.func37,rfl,by kernel_rfl⟩
theorem e4_:Body Tryz.prog 38:=⟨Tryz.f38,_,Tryz.func38,rfl,by kernel_rfl⟩
theorem o7_:Body Tryz.prog 39:=⟨Tryz.f39,_,Tryz.func39,rfl,by kernel_rfl⟩
theorem o6_:Body Tryz.prog 40:=⟨Tryz.f40,_,Tryz.func40,rfl,by kernel_rfl⟩
theorem e3_:Body Tryz.prog 41:=⟨Tryz.f41,_,Tryz.func41,rfl,by kernel_rfl⟩
theorem o5_:Body Tryz.prog 42:=⟨Tryz.f42,_,Tryz.func42,rfl,by kernel_rfl⟩
theorem o4_:Body Tryz.prog 43:=⟨Tryz.f43,_,Tryz.func43,rfl,by kernel_rfl⟩
theorem o3_:Body Tryz.prog 44:=⟨Tryz.f44,_,Tryz.func44,rfl,by kernel_rfl⟩
theorem o2_:Body Tryz.prog 45:=⟨Tryz.f45,_,Tryz.func45,rfl,by kernel_rfl⟩
theorem dB_:Body Tryz.prog 46:=⟨Tryz.f46,_,Tryz.func46,rfl,by kernel_rfl⟩
theorem o1_:Body Tryz.prog 47:=⟨Tryz.f47,_,Tryz.func47,rfl,by kernel_rfl⟩
theorem o0_:Body Tryz.prog 48:=⟨Tryz.f48,_,Tryz.func48,rfl,by kernel_rfl⟩
theorem oZ_:Body Tryz.prog 49:=⟨Tryz.f49,_,Tryz.func49,rfl,by kernel_rfl⟩
theorem e2_:Body Tryz.prog 50:=⟨Tryz.f50,_,Tryz.func50,rfl,by kernel_rfl⟩
theorem oY_:Body Tryz.prog 51:=⟨Tryz.f51,_,Tryz.func51,rfl,by kernel_rfl⟩
theorem oX_:Body Tryz.prog 52:=⟨Tryz.f52,_,Tryz.func52,rfl,by kernel_rfl⟩
theorem oW_:Body Tryz.prog 53:=⟨Tryz.f53,_,Tryz.func53,rfl,by kernel_rfl⟩
theorem oV_:Body Tryz.prog 54:=⟨Tryz.f54,_,Tryz.func54,rfl,by kernel_rfl⟩
theorem oU_:Body Tryz.prog 55:=⟨Tryz.f55,_,Tryz.func55,rfl,by kernel_rfl⟩
theorem e1_:Body Tryz.prog 56:=⟨Tryz.f56,_,Tryz.func56,rfl,by kernel_rfl⟩
theorem bo_:Body Tryz.prog 57:=⟨Tryz.f57,_,Tryz.func57,rfl,by kernel_rfl⟩
theorem iO_:Body Tryz.prog 58:=⟨Tryz.f58,_,Tryz.func58,rfl,by kernel_rfl⟩
theorem oT_:Body Tryz.prog 59:=⟨Tryz.f59,_,Tryz.func59,rfl,by kernel_rfl⟩
theorem iN_:Body Tryz.prog 60:=⟨Tryz.f60,_,Tryz.func60,rfl,by kernel_rfl⟩
theorem iM_:Body Tryz.prog 61:=⟨Tryz.f61,_,Tryz.func61,rfl,by kernel_rfl⟩
theorem oS_:Body Tryz.prog 62:=⟨Tryz.f62,_,Tryz.func62,rfl,by kernel_rfl⟩
theorem iL_:Body Tryz.prog 63:=⟨Tryz.f63,_,Tryz.func63,rfl,by kernel_rfl⟩
theorem dA_:Body Tryz.prog 64:=⟨Tryz.f64,_,Tryz.func64,rfl,by kernel_rfl⟩
theorem iK_:Body Tryz.prog 65:=⟨Tryz.f65,_,Tryz.func65,rfl,by kernel_rfl⟩
theorem oR_:Body Tryz.prog 66:=⟨Tryz.f66,_,Tryz.func66,rfl,by kernel_rfl⟩
theorem cz_:Body Tryz.prog 67:=⟨Tryz.f67,_,Tryz.func67,rfl,by kernel_rfl⟩
theorem oQ_:Body Tryz.prog 68:=⟨Tryz.f68,_,Tryz.func68,rfl,by kernel_rfl⟩
theorem iJ_:Body Tryz.prog 69:=⟨Tryz.f69,_,Tryz.func69,rfl,by kernel_rfl⟩
theorem iI_:Body Tryz.prog 70:=⟨Tryz.f70,_,Tryz.func70,rfl,by kernel_rfl⟩
theorem iH_:Body Tryz.prog 71:=⟨Tryz.f71,_,Tryz.func71,rfl,by kernel_rfl⟩
theorem iG_:Body Tryz.prog 72:=⟨Tryz.f72,_,Tryz.func72,rfl,by kernel_rfl⟩
theorem iF_:Body Tryz.prog 73:=⟨Tryz.f73,_,Tryz.func73,rfl,by kernel_rfl⟩
theorem oP_:Body Tryz.prog 74:=⟨Tryz.f74,_,Tryz.func74,rfl,by kernel_rfl⟩
theorem oO_:Body Tryz.prog 75:=⟨Tryz.f75,_,Tryz.func75,rfl,by kernel_rfl⟩
theorem oN_:Body Tryz.prog 76:=⟨Tryz.f76,_,Tryz.func76,rfl,by kernel_rfl⟩
theorem oM_:Body Tryz.prog 77:=⟨Tryz.f77,_,Tryz.func77,rfl,by kernel_rfl⟩
theorem oL_:Body Tryz.prog 78:=⟨Tryz.f78,_,Tryz.func78,rfl,by kernel_rfl⟩
theorem iE_:Body Tryz.prog 79:=⟨Tryz.f79,_,Tryz.func79,rfl,by kernel_rfl⟩
theorem oK_:Body Tryz.prog 80:=⟨Tryz.f80,_,Tryz.func80,rfl,by kernel_rfl⟩
theorem oJ_:Body Tryz.prog 81:=⟨Tryz.f81,_,Tryz.func81,rfl,by kernel_rfl⟩
theorem oI_:Body Tryz.prog 82:=⟨Tryz.f82,_,Tryz.func82,rfl,by kernel_rfl⟩
theorem e0_:Body Tryz.prog 83:=⟨Tryz.f83,_,Tryz.func83,rfl,by kernel_rfl⟩
theorem iD_:Body Tryz.prog 84:=⟨Tryz.f84,_,Tryz.func84,rfl,by kernel_rfl⟩
theorem oH_:Body Tryz.prog 85:=⟨Tryz.f85,_,Tryz.func85,rfl,by kernel_rfl⟩
theorem oG_:Body Tryz.prog 86:=⟨Tryz.f86,_,Tryz.func86,rfl,by kernel_rfl⟩
theorem eZ_:Body Tryz.prog 87:=⟨Tryz.f87,_,Tryz.func87,rfl,by kernel_rfl⟩
theorem oF_:Body Tryz.prog 88:=⟨Tryz.f88,_,Tryz.func88,rfl,by kernel_rfl⟩
theorem oE_:Body Tryz.prog 89:=⟨Tryz.f89,_,Tryz.func89,rfl,by kernel_rfl⟩
theorem oD_:Body Tryz.prog 90:=⟨Tryz.f90,_,Tryz.func90,rfl,by kernel_rfl⟩
theorem eY_:Body Tryz.prog 91:=⟨Tryz.f91,_,Tryz.func91,rfl,by kernel_rfl⟩
theorem iC_:Body Tryz.prog 92:=⟨Tryz.f92,_,Tryz.func92,rfl,by kernel_rfl⟩
theorem iB_:Body Tryz.prog 93:=⟨Tryz.f93,_,Tryz.func93,rfl,by kernel_rfl⟩
theorem ar_:Body Tryz.prog 94:=⟨Tryz.f94,_,Tryz.func94,rfl,by kernel_rfl⟩
theorem oC_:Body Tryz.prog 95:=⟨Tryz.f95,_,Tryz.func95,rfl,by kernel_rfl⟩
theorem oB_:Body Tryz.prog 96:=⟨Tryz.f96,_,Tryz.func96,rfl,by kernel_rfl⟩
theorem iA_:Body Tryz.prog 97:=⟨Tryz.f97,_,Tryz.func97,rfl,by kernel_rfl⟩
theorem eX_:Body Tryz.prog 98:=⟨Tryz.f98,_,Tryz.func98,rfl,by kernel_rfl⟩
theorem bX_:Body Tryz.prog 101:=⟨Tryz.f101,_,Tryz.func101,rfl,by kernel_rfl⟩
theorem gX_:Body Tryz.prog 102:=⟨Tryz.f102,_,Tryz.func102,rfl,by kernel_rfl⟩
theorem cS_:Body Tryz.prog 103:=⟨Tryz.f103,_,Tryz.func103,rfl,by kernel_rfl⟩
theorem np_:Body Tryz.prog 105:=⟨Tryz.f105,_,Tryz.func105,rfl,by kernel_rfl⟩
theorem no_:Body Tryz.prog 111:=⟨Tryz.f111,_,Tryz.func111,rfl,by kernel_rfl⟩
theorem gW_:Body Tryz.prog 115:=⟨Tryz.f115,_,Tryz.func115,rfl,by kernel_rfl⟩
theorem nn_:Body Tryz.prog 116:=⟨Tryz.f116,_,Tryz.func116,rfl,by kernel_rfl⟩
theorem nm_:Body Tryz.prog 118:=⟨Tryz.f118,_,Tryz.func118,rfl,by kernel_rfl⟩
theorem nl_:Body Tryz.prog 119:=⟨Tryz.f119,_,Tryz.func119,rfl,by kernel_rfl⟩
theorem nk_:Body Tryz.prog 120:=⟨Tryz.f120,_,Tryz.func120,rfl,by kernel_rfl⟩
theorem nj_:Body Tryz.prog 121:=⟨Tryz.f121,_,Tryz.func121,rfl,by kernel_rfl⟩
theorem ni_:Body Tryz.prog 122:=⟨Tryz.f122,_,Tryz.func122,rfl,by kernel_rfl⟩
theorem bx_:Body Tryz.prog 123:=⟨Tryz.f123,_,Tryz.func123,rfl,by kernel_rfl⟩
theorem nh_:Body Tryz.prog 124:=⟨Tryz.f124,_,Tryz.func124,rfl,by kernel_rfl⟩
theorem ng_:Body Tryz.prog 126:=⟨Tryz.f126,_,Tryz.func126,rfl,by kernel_rfl⟩
theorem gV_:Body Tryz.prog 127:=⟨Tryz.f127,_,Tryz.func127,rfl,by kernel_rfl⟩
theorem nf_:Body Tryz.prog 128:=⟨Tryz.f128,_,Tryz.func128,rfl,by kernel_rfl⟩
theorem ne_:Body Tryz.prog 129:=⟨Tryz.f129,_,Tryz.func129,rfl,by kernel_rfl⟩
theorem bw_:Body Tryz.prog 130:=⟨Tryz.f130,_,Tryz.func130,rfl,by kernel_rfl⟩
theorem nd_:Body Tryz.prog 131:=⟨Tryz.f131,_,Tryz.func131,rfl,by kernel_rfl⟩
theorem nc_:Body Tryz.prog 132:=⟨Tryz.f132,_,Tryz.func132,rfl,by kernel_rfl⟩
theorem nb_:Body Tryz.prog 133:=⟨Tryz.f133,_,Tryz.func133,rfl,by kernel_rfl⟩
theorem na_:Body Tryz.prog 134:=⟨Tryz.f134,_,Tryz.func134,rfl,by kernel_rfl⟩
theorem bW_:Body Tryz.prog 135:=⟨Tryz.f135,_,Tryz.func135,rfl,by kernel_rfl⟩
theorem bV_:Body Tryz.prog 136:=⟨Tryz.f136,_,Tryz.func136,rfl,by kernel_rfl⟩
theorem gU_:Body Tryz.prog 137:=⟨Tryz.f137,_,Tryz.func137,rfl,by kernel_rfl⟩
theorem aH_:Body Tryz.prog 138:=⟨Tryz.f138,_,Tryz.func138,rfl,by kernel_rfl⟩
theorem m9_:Body Tryz.prog 139:=⟨Tryz.f139,_,Tryz.func139,rfl,by kernel_rfl⟩
theorem a4_:Body Tryz.prog 140:=⟨Tryz.f140,_,Tryz.func140,rfl,by kernel_rfl⟩
theorem bU_:Body Tryz.prog 141:=⟨Tryz.f141,_,Tryz.func141,rfl,by kernel_rfl⟩
theorem cR_:Body Tryz.prog 142:=⟨Tryz.f142,_,Tryz.func142,rfl,by kernel_rfl⟩
theorem m8_:Body Tryz.prog 143:=⟨Tryz.f143,_,Tryz.func143,rfl,by kernel_rfl⟩
theorem m7_:Body Tryz.prog 145:=⟨Tryz.f145,_,Tryz.func145,rfl,by kernel_rfl⟩
theorem m6_:Body Tryz.prog 146:=⟨Tryz.f146,_,Tryz.func146,rfl,by kernel_rfl⟩
theorem m5_:Body Tryz.prog 147:=⟨Tryz.f147,_,Tryz.func147,rfl,by kernel_rfl⟩
theorem m4_:Body Tryz.prog 148:=⟨Tryz.f148,_,Tryz.func148,rfl,by kernel_rfl⟩
theorem m3_:Body Tryz.prog 149:=⟨Tryz.f149,_,Tryz.func149,rfl,by kernel_rfl⟩
theorem ec_:Body Tryz.prog 171:=⟨Tryz.f171,_,Tryz.func171,rfl,by kernel_rfl⟩
theorem m2_:Body Tryz.prog 172:=⟨Tryz.f172,_,Tryz.func172,rfl,by kernel_rfl⟩
theorem m1_:Body Tryz.prog 173:=⟨Tryz.f173,_,Tryz.func173,rfl,by kernel_rfl⟩
theorem m0_:Body Tryz.prog 174:=⟨Tryz.f174,_,Tryz.func174,rfl,by kernel_rfl⟩
theorem gT_:Body Tryz.prog 175:=⟨Tryz.f175,_,Tryz.func175,rfl,by kernel_rfl⟩
theorem gS_:Body Tryz.prog 176:=⟨Tryz.f176,_,Tryz.func176,rfl,by kernel_rfl⟩
theorem mZ_:Body Tryz.prog 177:=⟨Tryz.f177,_,Tryz.func177,rfl,by kernel_rfl⟩
theorem eb_:Body Tryz.prog 178:=⟨Tryz.f178,_,Tryz.func178,rfl,by kernel_rfl⟩
theorem mY_:Body Tryz.prog 179:=⟨Tryz.f179,_,Tryz.func179,rfl,by kernel_rfl⟩
theorem cQ_:Body Tryz.prog 180:=⟨Tryz.f180,_,Tryz.func180,rfl,by kernel_rfl⟩
theorem ea_:Body Tryz.prog 181:=⟨Tryz.f181,_,Tryz.func181,rfl,by kernel_rfl⟩
theorem gR_:Body Tryz.prog 182:=⟨Tryz.f182,_,Tryz.func182,rfl,by kernel_rfl⟩
theorem mX_:Body Tryz.prog 183:=⟨Tryz.f183,_,Tryz.func183,rfl,by kernel_rfl⟩
theorem gQ_:Body Tryz.prog 184:=⟨Tryz.f184,_,Tryz.func184,rfl,by kernel_rfl⟩
theorem mW_:Body Tryz.prog 185:=⟨Tryz.f185,_,Tryz.func185,rfl,by kernel_rfl⟩
theorem mV_:Body Tryz.prog 194:=⟨Tryz.f194,_,Tryz.func194,rfl,by kernel_rfl⟩
theorem gP_:Body Tryz.prog 195:=⟨Tryz.f195,_,Tryz.func195,rfl,by kernel_rfl⟩
theorem gO_:Body Tryz.prog 196:=⟨Tryz.f196,_,Tryz.func196,rfl,by kernel_rfl⟩
theorem gN_:Body Tryz.prog 197:=⟨Tryz.f197,_,Tryz.func197,rfl,by kernel_rfl⟩
theorem d9_:Body Tryz.prog 198:=⟨Tryz.f198,_,Tryz.func198,rfl,by kernel_rfl⟩
theorem mU_:Body Tryz.prog 199:=⟨Tryz.f199,_,Tryz.func199,rfl,by kernel_rfl⟩
theorem gM_:Body Tryz.prog 200:=⟨Tryz.f200,_,Tryz.func200,rfl,by kernel_rfl⟩
theorem gL_:Body Tryz.prog 201:=⟨Tryz.f201,_,Tryz.func201,rfl,by kernel_rfl⟩
theorem d8_:Body Tryz.prog 202:=⟨Tryz.f202,_,Tryz.func202,rfl,by kernel_rfl⟩
theorem gK_:Body Tryz.prog 203:=⟨Tryz.f203,_,Tryz.func203,rfl,by kernel_rfl⟩
theorem gJ_:Body Tryz.prog 204:=⟨Tryz.f204,_,Tryz.func204,rfl,by kernel_rfl⟩
theorem gI_:Body Tryz.prog 205:=⟨Tryz.f205,_,Tryz.func205,rfl,by kernel_rfl⟩
theorem gH_:Body Tryz.prog 206:=⟨Tryz.f206,_,Tryz.func206,rfl,by kernel_rfl⟩
theorem gG_:Body Tryz.prog 207:=⟨Tryz.f207,_,Tryz.func207,rfl,by kernel_rfl⟩
theorem cP_:Body Tryz.prog 208:=⟨Tryz.f208,_,Tryz.func208,rfl,by kernel_rfl⟩
theorem mT_:Body Tryz.prog 209:=⟨Tryz.f209,_,Tryz.func209,rfl,by kernel_rfl⟩
theorem a3_:Body Tryz.prog 212:=⟨Tryz.f212,_,Tryz.func212,rfl,by kernel_rfl⟩
theorem mS_:Body Tryz.prog 213:=⟨Tryz.f213,_,Tryz.func213,rfl,by kernel_rfl⟩
theorem mR_:Body Tryz.prog 214:=⟨Tryz.f214,_,Tryz.func214,rfl,by kernel_rfl⟩
theorem cO_:Body Tryz.prog 215:=⟨Tryz.f215,_,Tryz.func215,rfl,by kernel_rfl⟩
theorem cN_:Body Tryz.prog 216:=⟨Tryz.f216,_,Tryz.func216,rfl,by kernel_rfl⟩
instance:Glob:=⟨fun
 | 12=>some [.v (.int .u32 1779033703),.v (.int .u32 3144134277),.v (.int .u32 1013904242),.v (.int .u32 2773480762),.v (.int .u32 1359893119),.v (.int .u32 2600822924),.v (.int .u32 528734635),.v (.int .u32 1541459225)]
 | 13=>some [.v (.int .u8 0),.v (.int .u8 1),.v (.int .u8 2),.v (.int .u8 3),.v (.int .u8 4),.v (.int .u8 5),.v (.int .u8 6),.v (.int .u8 7),.v (.int .u8 8),.v (.int .u8 9),.v (.int .u8 10),.v (.int .u8 11),.v (.int .u8 12),.v (.int .u8 13),.v (.int .u8 14),.v (.int .u8 15),.v (.int .u8 14),.v (.int .u8 10),.v (.int .u8 4),.v (.int .u8 8),.v (.int .u8 9),.v (.int .u8 15),.v (.int .u8 13),.v (.int .u8 6),.v (.int .u8 1),.v (.int .u8 12),.v (.int .u8 0),.v (.int .u8 2),.v (.int .u8 11),.v (.int .u8 7),.v (.int .u8 5),.v (.int .u8 3),.v (.int .u8 11),.v (.int .u8 8),.v (.int .u8 12),.v (.int .u8 0),.v (.int .u8 5),.v (.int .u8 2),.v (.int .u8 15),.v (.int .u8 13),.v (.int .u8 10),.v (.int .u8 14),.v (.int .u8 3),.v (.int .u8 6),.v (.int .u8 7),.v (.int .u8 1),.v (.int .u8 9),.v (.int .u8 4),.v (.int .u8 7),.v (.int .u8 9),.v (.int .u8 3),.v (.int .u8 1),.v (.int .u8 13),.v (.int .u8 12),.v (.int .u8 11),.v (.int .u8 14),.v (.int .u8 2),.v (.int .u8 6),.v (.int .u8 5),.v (.int .u8 10),.v (.int .u8 4),.v (.int .u8 0),.v (.int .u8 15),.v (.int .u8 8),.v (.int .u8 9),.v (.int .u8 0),.v (.int .u8 5),.v (.int .u8 7),.v (.int .u8 2),.v (.int .u8 4),.v (.int .u8 10),.v (.int .u8 15),.v (.int .u8 14),.v (.int .u8 1),.v (.int .u8 11),.v (.int .u8 12),.v (.int .u8 6),.v (.int .u8 8),.v (.int .u8 3),.v (.int .u8 13),.v (.int .u8 2),.v (.int .u8 12),.v (.int .u8 6),.v (.int .u8 10),.v (.int .u8 0),.v (.int .u8 11),.v (.int .u8 8),.v (.int .u8 3),.v (.int .u8 4),.v (.int .u8 13),.v (.int .u8 7),.v (.int .u8 5),.v (.int .u8 15),.v (.int .u8 14),.v (.int .u8 1),.v (.int .u8 9),.v (.int .u8 12),.v (.int .u8 5),.v (.int .u8 1),.v (.int .u8 15),.v (.int .u8 14),.v (.int .u8 13),.v (.int .u8 4),.v (.int .u8 10),.v (.int .u8 0),.v (.int .u8 7),.v (.int .u8 6),.v (.int .u8 3),.v (.int .u8 9),.v (.int .u8 2),.v (.int .u8 8),.v (.int .u8 11),.v (.int .u8 13),.v (.int .u8 11),.v (.int .u8 7),.v (.int .u8 14),.v (.int .u8 12),.v (.int .u8 1),.v (.int .u8 3),.v (.int .u8 9),.v (.int .u8 5),.v (.int .u8 0),.v (.int .u8 15),.v (.int .u8 4),.v (.int .u8 8),.v (.int .u8 6),.v (.int .u8 2),.v (.int .u8 10),.v (.int .u8 6),.v (.int .u8 15),.v (.int .u8 14),.v (.int .u8 9),.v (.int .u8 11),.v (.int .u8 3),.v (.int .u8 0),.v (.int .u8 8),.v (.int .u8 12),.v (.int .u8 2),.v (.int .u8 13),.v (.int .u8 7),.v (.int .u8 1),.v (.int .u8 4),.v (.int .u8 10),.v (.int .u8 5),.v (.int .u8 10),.v (.int .u8 2),.v (.int .u8 8),.v (.int .u8 4),.v (.int .u8 7),.v (.int .u8 6),.v (.int .u8 1),.v (.int .u8 5),.v (.int .u8 15),.v (.int .u8 11),.v (.int .u8 9),.v (.int .u8 14),.v (.int .u8 3),.v (.int .u8 12),.v (.int .u8 13),.v (.int .u8 0)]
 | 1=>some [.v (.int .i64 (-1099511627776)),.v (.int .i64 1099511627776)]
 | 5=>some [.v (.int .i64 0),.v (.int .i64 1099511627776)]
 | 0=>some [.v (.int .i64 1),.v (.int .i64 9999)]
 | 3=>some [.v (.int .i64 0),.v (.int .i64 39)]
 | 4=>some [.v (.int .i64 0),.v (.int .i64 255)]
 | 2=>some [.v (.int .i64 0),.v (.int .i64 1048576)]
 | 6=>some [.v (.int .i64 0),.v (.int .i64 255)]
 | 7=>some [.v (.int .i64 1),.v (.int .i64 1048576)]
 | 9=>some [.v (.int .i64 0),.v (.int .i64 31)]
 | 10=>some [.v (.int .i64 1),.v (.int .i64 1048576)]
 | 8=>some [.v (.int .i64 0),.v (.int .i64 1)]
 | _=>none⟩
@[simp] theorem yX_:(Glob.laid 12:Option (List D))=some [.v (.int .u32 1779033703),.v (.int .u32 3144134277),.v (.int .u32 1013904242),.v (.int .u32 2773480762),.v (.int .u32 1359893119),.v (.int .u32 2600822924),.v (.int .u32 528734635),.v (.int .u32 1541459225)]:=rfl
@[simp] theorem oz_:(Glob.laid 13:Option (List D))=some [.v (.int .u8 0),.v (.int .u8 1),.v (.int .u8 2),.v (.int .u8 3),.v (.int .u8 4),.v (.int .u8 5),.v (.int .u8 6),.v (.int .u8 7),.v (.int .u8 8),.v (.int .u8 9),.v (.int .u8 10),.v (.int .u8 11),.v (.int .u8 12),.v (.int .u8 13),.v (.int .u8 14),.v (.int .u8 15),.v (.int .u8 14),.v (.int .u8 10),.v (.int .u8 4),.v (.int .u8 8),.v (.int .u8 9),.v (.int .u8 15),.v (.int .u8 13),.v (.int .u8 6),.v (.int .u8 1),.v (.int .u8 12),.v (.int .u8 0),.v (.int .u8 2),.v (.int .u8 11),.v (.int .u8 7),.v (.int .u8 5),.v (.int .u8 3),.v (.int .u8 11),.v (.int .u8 8),.v (.int .u8 12),.v (.int .u8 0),.v (.int .u8 5),.v (.int .u8 2),.v (.int .u8 15),.v (.int .u8 13),.v (.int .u8 10),.v (.int .u8 14),.v (.int .u8 3),.v (.int .u8 6),.v (.int .u8 7),.v (.int .u8 1),.v (.int .u8 9),.v (.int .u8 4),.v (.int .u8 7),.v (.int .u8 9),.v (.int .u8 3),.v (.int .u8 1),.v (.int .u8 13),.v (.int .u8 12),.v (.int .u8 11),.v (.int .u8 14),.v (.int .u8 2),.v (.int .u8 6),.v (.int .u8 5),.v (.int .u8 10),.v (.int .u8 4),.v (.int .u8 0),.v (.int .u8 15),.v (.int .u8 8),.v (.int .u8 9),.v (.int .u8 0),.v (.int .u8 5),.v (.int .u8 7),.v (.int .u8 2),.v (.int .u8 4),.v (.int .u8 10),.v (.int .u8 15),.v (.int .u8 14),.v (.int .u8 1),.v (.int .u8 11),.v (.int .u8 12),.v (.int .u8 6),.v (.int .u8 8),.v (.int .u8 3),.v (.int .u8 13),.v (.int .u8 2),.v (.int .u8 12),.v (.int .u8 6),.v (.int .u8 10),.v (.int .u8 0),.v (.int .u8 11),.v (.int .u8 8),.v (.int .u8 3),.v (.int .u8 4),.v (.int .u8 13),.v (.int .u8 7),.v (.int .u8 5),.v (.int .u8 15),.v (.int .u8 14),.v (.int .u8 1),.v (.int .u8 9),.v (.int .u8 12),.v (.int .u8 5),.v (.int .u8 1),.v (.int .u8 15),.v (.int .u8 14),.v (.int .u8 13),.v (.int .u8 4),.v (.int .u8 10),.v (.int .u8 0),.v (.int .u8 7),.v (.int .u8 6),.v (.int .u8 3),.v (.int .u8 9),.v (.int .u8 2),.v (.int .u8 8),.v (.int .u8 11),.v (.int .u8 13),.v (.int .u8 11),.v (.int .u8 7),.v (.int .u8 14),.v (.int .u8 12),.v (.int .u8 1),.v (.int .u8 3),.v (.int .u8 9),.v (.int .u8 5),.v (.int .u8 0),.v (.int .u8 15),.v (.int .u8 4),.v (.int .u8 8),.v (.int .u8 6),.v (.int .u8 2),.v (.int .u8 10),.v (.int .u8 6),.v (.int .u8 15),.v (.int .u8 14),.v (.int .u8 9),.v (.int .u8 11),.v (.int .u8 3),.v (.int .u8 0),.v (.int .u8 8),.v (.int .u8 12),.v (.int .u8 2),.v (.int .u8 13),.v (.int .u8 7),.v (.int .u8 1),.v (.int .u8 4),.v (.int .u8 10),.v (.int .u8 5),.v (.int .u8 10),.v (.int .u8 2),.v (.int .u8 8),.v (.int .u8 4),.v (.int .u8 7),.v (.int .u8 6),.v (.int .u8 1),.v (.int .u8 5),.v (.int .u8 15),.v (.int .u8 11),.v (.int .u8 9),.v (.int .u8 14),.v (.int .u8 3),.v (.int .u8 12),.v (.int .u8 13),.v (.int .u8 0)]:=rfl
@[simp] theorem zl_:(Glob.laid 1:Option (List D))=some [.v (.int .i64 (-1099511627776)),.v (.int .i64 1099511627776)]:=rfl
@[simp] theorem zh_:(Glob.laid 5:Option (List D))=some [.v (.int .i64 0),.v (.int .i64 1099511627776)]:=rfl
@[simp] theorem zm_:(Glob.laid 0:Option (List D))=some [.v (.int .i64 1),.v (.int .i64 9999)]:=rfl
@[simp] theorem zj_:(Glob.laid 3:Option (List D))=some [.v (.int .i64 0),.v (.int .i64 39)]:=rfl
@[simp] theorem zi_:(Glob.laid 4:Option (List D))=some [.v (.int .i64 0),.v (.int .i64 255)]:=rfl
@[simp] theorem zk_:(Glob.laid 2:Option (List D))=some [.v (.int .i64 0),.v (.int .i64 1048576)]:=rfl
@[simp] theorem zg_:(Glob.laid 6:Option (List D))=some [.v (.int .i64 0),.v (.int .i64 255)]:=rfl
@[simp] theorem zf_:(Glob.laid 7:Option (List D))=some [.v (.int .i64 1),.v (.int .i64 1048576)]:=rfl
@[simp] theorem zd_:(Glob.laid 9:Option (List D))=some [.v (.int .i64 0),.v (.int .i64 31)]:=rfl
@[simp] theorem yY_:(Glob.laid 10:Option (List D))=some [.v (.int .i64 1),.v (.int .i64 1048576)]:=rfl
@[simp] theorem ze_:(Glob.laid 8:Option (List D))=some [.v (.int .i64 0),.v (.int .i64 1)]:=rfl
end Go.Proofs.YtdjkbdhdejlakaaGreatDoor

namespace Go.Proofs.YtdjkbdhdejlakaaGreatDoor
open Go.Xe
/-- Of two claims the first by the usual means. -/
theorem aI {p q:Prop} (hq:q) (hp:p:=by first|rfl|omega|decide|(simp;done)|(simp;omega)|(intro _ h;exact fcs_side h;done)|(intros;simp_all;done)|(intros;simp_all;omega)):p∧q:=⟨hp,hq⟩
/-- One step into a code of a told form. -/
class Gn (P:Program) (ds:Dn) (pn:Pn) (c:Code) (Q:Exit→St→Prop) (S:St) (G:outParam Prop):Prop where
 go:G→WP P ds pn c Q S
instance (P:Program) (ds:Dn) (pn:Pn) (Q:Exit→St→Prop) (S:St) (x y:Code):Gn P ds pn (.seq x y) Q S (WP P ds pn x (Cl_ P ds pn y Q) S):=⟨WP.seq⟩
instance (P:Program) (ds:Dn) (pn:Pn) (Q:Exit→St→Prop) (S:St) (id:Nat) (c:Code):Gn P ds pn (.block id c) Q S (WP P ds pn c (CF_ id Q) S):=⟨WP.block⟩
theorem wG {P:Program} {ds:Dn} {pn:Pn} {c:Code} {Q:Exit→St→Prop} {S:St} {G:Prop} [i:Gn P ds pn c Q S G] (g:G):WP P ds pn c Q S:=i.go g
theorem wR {ds:Dn} {pn:Pn} {Q:Exit→St→Prop} {S:St} {id:Nat} {l:List Oper} {b:Bool} (h:vcOps Tryz.prog ds pn aj_ (l.map (·.dst)) (fun tis S'=>(b=true→bm_ S (tis.flatMap fun t=>t.e.add))∧(b=true→gp_ (pn.zs.map (·.1)) (l.map (·.dst)) l (tis.map TI.ts)=true)∧Q .normal S') l S []):WP Tryz.prog ds pn (.region id l.toArray b) Q S:=by
 cases b with
 | false =>
  refine WP.region aa_ ?_
  have e:(fun (tis:List TI) (S':St)=>(false=true→bm_ S (tis.flatMap fun t=>t.e.add))∧(false=true→gp_ (pn.zs.map (·.1)) (l.map (·.dst)) l (tis.map TI.ts)=true)∧Q .normal S')=fun _ S'=>Q .normal S':=by funext tis S';simp
  rwa[e] at h
 | true =>
  refine uo_ aa_ eo_ ?_
  have e:(fun (tis:List TI) (S':St)=>(true=true→bm_ S (tis.flatMap fun t=>t.e.add))∧(true=true→gp_ (pn.zs.map (·.1)) (l.map (·.dst)) l (tis.map TI.ts)=true)∧Q .normal S')=fun tis S'=>bm_ S (tis.flatMap fun t=>t.e.add)∧gp_ (pn.zs.map (·.1)) (l.map (·.dst)) l (tis.map TI.ts)=true∧Q .normal S':=by funext tis S';simp
  rwa[e] at h
theorem cF {ds:Dn} {pn:Pn} {Q:Exit→St→Prop} {S:St} {o:Operand} {x y:Code} (he:S.ev o=.d (.v (.bool false))) (h:WP Tryz.prog ds pn y Q S):WP Tryz.prog ds pn (.cond o x y) Q S:=WP.cond (b:=false) he (fun h=>by cases h) (fun _=>h)
theorem cT {ds:Dn} {pn:Pn} {Q:Exit→St→Prop} {S:St} {o:Operand} {x y:Code} (he:S.ev o=.d (.v (.bool true))) (h:WP Tryz.prog ds pn x Q S):WP Tryz.prog ds pn (.cond o x y) Q S:=WP.cond (b:=true) he (fun _=>h) (fun h=>by cases h)
end Go.Proofs.YtdjkbdhdejlakaaGreatDoor
