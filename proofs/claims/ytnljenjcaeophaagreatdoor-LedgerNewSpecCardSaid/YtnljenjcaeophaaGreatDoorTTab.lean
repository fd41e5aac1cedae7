/-
  The types of the seat, for the engine. Printed by seatgen.py.
-/
import Derived.Test.YtnljenjcaeophaaGreatDoorRows
import Derived.Test.YtnljenjcaeophaaGreatDoorT3
set_option linter.unusedVariables false
set_option linter.unusedSimpArgs false
set_option linter.unusedSectionVars false
namespace Go.Proofs.YtnljenjcaeophaaGreatDoor
open Go.Xe
def iZ : Value := .int .i64 0
@[simp] theorem iZe : iZ = .int .i64 0 := rfl
def uZ : Value := .int .u8 0
@[simp] theorem uZe : uZ = .int .u8 0 := rfl
def bZ : Value := .bool false
@[simp] theorem bZe : bZ = .bool false := rfl
def nZ : Value := .slice none 0 0
@[simp] theorem nZe : nZ = .slice none 0 0 := rfl
def sZ : Value := .string { data := #[] }
@[simp] theorem sZe : sZ = .string { data := #[] } := rfl
def wZ : Value := .int .u32 0
@[simp] theorem wZe : wZ = .int .u32 0 := rfl
abbrev tF : Option TE := some ⟨.func, 1, 8, [.nilFunc]⟩
def Tryz.tL : List (Option TE) := [
 none,
 tF,
 some ⟨.int .i64,1,8,[iZ]⟩,
 some ⟨.int .i64,1,8,[iZ]⟩,
 some ⟨.bool,1,1,[bZ]⟩,
 some ⟨.int .u8,1,1,[uZ]⟩,
 some ⟨.int .u8,1,1,[uZ]⟩,
 some ⟨.struct [(0,2),(1,3),(2,4),(3,6)],4,24,[iZ,iZ,bZ,uZ]⟩,
 some ⟨.struct [(0,2),(1,3),(2,4),(3,6)],4,24,[iZ,iZ,bZ,uZ]⟩,
 some ⟨.string,1,16,[sZ]⟩,
 some ⟨.string,1,16,[sZ]⟩,
 some ⟨.string,1,16,[sZ]⟩,
 some ⟨.int .u64,1,8,[.int .u64 0]⟩,
 some ⟨.struct [(0,9),(1,12)],2,24,[sZ,.int .u64 0]⟩,
 some ⟨.struct [(0,9),(1,12)],2,24,[sZ,.int .u64 0]⟩,
 some ⟨.ptr 348,1,8,[.pointer none]⟩,
 some ⟨.ptr 351,1,8,[.pointer none]⟩,
 some ⟨.ptr 360,1,8,[.pointer none]⟩,
 some ⟨.struct [(0,17)],1,8,[.pointer none]⟩,
 some ⟨.struct [(0,17)],1,8,[.pointer none]⟩,
 some ⟨.iface,1,16,[.nilIface]⟩,
 some ⟨.int .i32,1,4,[.int .i32 0]⟩,
 some ⟨.slice 104,1,24,[nZ]⟩,
 some ⟨.slice 70,1,24,[nZ]⟩,
 some ⟨.struct [(0,23)],1,24,[nZ]⟩,
 some ⟨.struct [(0,23)],1,24,[nZ]⟩,
 tF,
 tF,
 tF,
 some ⟨.int .i64,1,8,[iZ]⟩,
 none,
 tF,
 some ⟨.slice 63,1,24,[nZ]⟩,
 tF,
 tF,
 tF,
 tF,
 tF,
 tF,
 tF,
 some ⟨.struct [(0,3),(1,3),(2,3),(3,3),(4,3),(5,3),(6,3),(7,3)],8,64,[iZ,iZ,iZ,iZ,iZ,iZ,iZ,iZ]⟩,
 some ⟨.struct [(0,3),(1,3),(2,3),(3,3),(4,3),(5,3),(6,3),(7,3)],8,64,[iZ,iZ,iZ,iZ,iZ,iZ,iZ,iZ]⟩,
 some ⟨.struct [(0,3),(1,3),(2,3),(3,3)],4,32,[iZ,iZ,iZ,iZ]⟩,
 some ⟨.struct [(0,3),(1,3),(2,3),(3,3)],4,32,[iZ,iZ,iZ,iZ]⟩,
 some ⟨.struct [(0,3),(1,3),(2,3),(3,3),(4,3)],5,40,[iZ,iZ,iZ,iZ,iZ]⟩,
 some ⟨.struct [(0,3),(1,3),(2,3),(3,3),(4,3)],5,40,[iZ,iZ,iZ,iZ,iZ]⟩,
 some ⟨.struct [(0,3),(1,3),(2,3),(3,3),(4,3),(5,3),(6,3),(7,3)],8,64,[iZ,iZ,iZ,iZ,iZ,iZ,iZ,iZ]⟩,
 some ⟨.struct [(0,3),(1,3),(2,3),(3,3),(4,3),(5,3),(6,3),(7,3)],8,64,[iZ,iZ,iZ,iZ,iZ,iZ,iZ,iZ]⟩,
 some ⟨.struct [(0,3),(1,3),(2,3),(3,3)],4,32,[iZ,iZ,iZ,iZ]⟩,
 some ⟨.struct [(0,3),(1,3),(2,3),(3,3)],4,32,[iZ,iZ,iZ,iZ]⟩,
 some ⟨.struct [(0,3),(1,3),(2,3),(3,3)],4,32,[iZ,iZ,iZ,iZ]⟩,
 some ⟨.struct [(0,3),(1,3),(2,3),(3,3)],4,32,[iZ,iZ,iZ,iZ]⟩,
 some ⟨.struct [(0,3),(1,3)],2,16,[iZ,iZ]⟩,
 some ⟨.struct [(0,3),(1,3)],2,16,[iZ,iZ]⟩,
 some ⟨.struct [(0,3),(1,3),(2,3),(3,3)],4,32,[iZ,iZ,iZ,iZ]⟩,
 some ⟨.struct [(0,3),(1,3),(2,3),(3,3)],4,32,[iZ,iZ,iZ,iZ]⟩,
 some ⟨.struct [(0,3),(1,3),(2,3),(3,3)],4,32,[iZ,iZ,iZ,iZ]⟩,
 some ⟨.struct [(0,3),(1,3),(2,3),(3,3)],4,32,[iZ,iZ,iZ,iZ]⟩,
 some ⟨.struct [(0,3),(1,3),(2,3),(3,3),(4,3),(5,3)],6,48,[iZ,iZ,iZ,iZ,iZ,iZ]⟩,
 some ⟨.struct [(0,3),(1,3),(2,3),(3,3),(4,3),(5,3)],6,48,[iZ,iZ,iZ,iZ,iZ,iZ]⟩,
 some ⟨.struct [(0,3),(1,4)],2,16,[iZ,bZ]⟩,
 some ⟨.struct [(0,3),(1,4)],2,16,[iZ,bZ]⟩,
 some ⟨.struct [(0,3),(1,3)],2,16,[iZ,iZ]⟩,
 some ⟨.struct [(0,3),(1,3)],2,16,[iZ,iZ]⟩,
 some ⟨.struct [(0,3),(1,3),(2,3),(3,3),(4,41),(12,43),(16,45),(21,47),(29,49),(33,51),(37,53),(39,55),(43,57),(47,59),(53,61),(55,63)],57,456,[iZ,iZ,iZ,iZ,iZ,iZ,iZ,iZ,iZ,iZ,iZ,iZ,iZ,iZ,iZ,iZ,iZ,iZ,iZ,iZ,iZ,iZ,iZ,iZ,iZ,iZ,iZ,iZ,iZ,iZ,iZ,iZ,iZ,iZ,iZ,iZ,iZ,iZ,iZ,iZ,iZ,iZ,iZ,iZ,iZ,iZ,iZ,iZ,iZ,iZ,iZ,iZ,iZ,iZ,bZ,iZ,iZ]⟩,
 some ⟨.struct [(0,3),(1,3),(2,3),(3,3),(4,41),(12,43),(16,45),(21,47),(29,49),(33,51),(37,53),(39,55),(43,57),(47,59),(53,61),(55,63)],57,456,[iZ,iZ,iZ,iZ,iZ,iZ,iZ,iZ,iZ,iZ,iZ,iZ,iZ,iZ,iZ,iZ,iZ,iZ,iZ,iZ,iZ,iZ,iZ,iZ,iZ,iZ,iZ,iZ,iZ,iZ,iZ,iZ,iZ,iZ,iZ,iZ,iZ,iZ,iZ,iZ,iZ,iZ,iZ,iZ,iZ,iZ,iZ,iZ,iZ,iZ,iZ,iZ,iZ,iZ,bZ,iZ,iZ]⟩,
 some ⟨.slice 102,1,24,[nZ]⟩,
 some ⟨.struct [(0,3),(1,66),(2,66),(3,66)],4,80,[iZ,nZ,nZ,nZ]⟩,
 some ⟨.struct [(0,3),(1,66),(2,66),(3,66)],4,80,[iZ,nZ,nZ,nZ]⟩,
 some ⟨.struct [(0,65),(57,68)],61,536,[iZ,iZ,iZ,iZ,iZ,iZ,iZ,iZ,iZ,iZ,iZ,iZ,iZ,iZ,iZ,iZ,iZ,iZ,iZ,iZ,iZ,iZ,iZ,iZ,iZ,iZ,iZ,iZ,iZ,iZ,iZ,iZ,iZ,iZ,iZ,iZ,iZ,iZ,iZ,iZ,iZ,iZ,iZ,iZ,iZ,iZ,iZ,iZ,iZ,iZ,iZ,iZ,iZ,iZ,bZ,iZ,iZ,iZ,nZ,nZ,nZ]⟩,
 some ⟨.struct [(0,65),(57,68)],61,536,[iZ,iZ,iZ,iZ,iZ,iZ,iZ,iZ,iZ,iZ,iZ,iZ,iZ,iZ,iZ,iZ,iZ,iZ,iZ,iZ,iZ,iZ,iZ,iZ,iZ,iZ,iZ,iZ,iZ,iZ,iZ,iZ,iZ,iZ,iZ,iZ,iZ,iZ,iZ,iZ,iZ,iZ,iZ,iZ,iZ,iZ,iZ,iZ,iZ,iZ,iZ,iZ,iZ,iZ,bZ,iZ,iZ,iZ,nZ,nZ,nZ]⟩,
 none,
 tF,
 tF,
 some ⟨.slice 5,1,24,[nZ]⟩,
 some ⟨.struct [(0,74),(1,3),(2,3)],3,40,[nZ,iZ,iZ]⟩,
 some ⟨.struct [(0,74),(1,3),(2,3)],3,40,[nZ,iZ,iZ]⟩,
 tF,
 tF,
 none,
 tF,
 tF,
 tF,
 tF,
 tF,
 tF,
 tF,
 some ⟨.slice 90,1,24,[nZ]⟩,
 tF,
 some ⟨.struct [(0,70),(61,70)],122,1072,[iZ,iZ,iZ,iZ,iZ,iZ,iZ,iZ,iZ,iZ,iZ,iZ,iZ,iZ,iZ,iZ,iZ,iZ,iZ,iZ,iZ,iZ,iZ,iZ,iZ,iZ,iZ,iZ,iZ,iZ,iZ,iZ,iZ,iZ,iZ,iZ,iZ,iZ,iZ,iZ,iZ,iZ,iZ,iZ,iZ,iZ,iZ,iZ,iZ,iZ,iZ,iZ,iZ,iZ,bZ,iZ,iZ,iZ,nZ,nZ,nZ,iZ,iZ,iZ,iZ,iZ,iZ,iZ,iZ,iZ,iZ,iZ,iZ,iZ,iZ,iZ,iZ,iZ,iZ,iZ,iZ,iZ,iZ,iZ,iZ,iZ,iZ,iZ,iZ,iZ,iZ,iZ,iZ,iZ,iZ,iZ,iZ,iZ,iZ,iZ,iZ,iZ,iZ,iZ,iZ,iZ,iZ,iZ,iZ,iZ,iZ,iZ,iZ,iZ,iZ,bZ,iZ,iZ,iZ,nZ,nZ,nZ]⟩,
 some ⟨.struct [(0,70),(61,70)],122,1072,[iZ,iZ,iZ,iZ,iZ,iZ,iZ,iZ,iZ,iZ,iZ,iZ,iZ,iZ,iZ,iZ,iZ,iZ,iZ,iZ,iZ,iZ,iZ,iZ,iZ,iZ,iZ,iZ,iZ,iZ,iZ,iZ,iZ,iZ,iZ,iZ,iZ,iZ,iZ,iZ,iZ,iZ,iZ,iZ,iZ,iZ,iZ,iZ,iZ,iZ,iZ,iZ,iZ,iZ,bZ,iZ,iZ,iZ,nZ,nZ,nZ,iZ,iZ,iZ,iZ,iZ,iZ,iZ,iZ,iZ,iZ,iZ,iZ,iZ,iZ,iZ,iZ,iZ,iZ,iZ,iZ,iZ,iZ,iZ,iZ,iZ,iZ,iZ,iZ,iZ,iZ,iZ,iZ,iZ,iZ,iZ,iZ,iZ,iZ,iZ,iZ,iZ,iZ,iZ,iZ,iZ,iZ,iZ,iZ,iZ,iZ,iZ,iZ,iZ,iZ,bZ,iZ,iZ,iZ,nZ,nZ,nZ]⟩,
 tF,
 tF,
 tF,
 none,
 tF,
 tF,
 tF,
 tF,
 tF,
 tF,
 some ⟨.array 32 5,32,32,[uZ,uZ,uZ,uZ,uZ,uZ,uZ,uZ,uZ,uZ,uZ,uZ,uZ,uZ,uZ,uZ,uZ,uZ,uZ,uZ,uZ,uZ,uZ,uZ,uZ,uZ,uZ,uZ,uZ,uZ,uZ,uZ]⟩,
 some ⟨.array 32 5,32,32,[uZ,uZ,uZ,uZ,uZ,uZ,uZ,uZ,uZ,uZ,uZ,uZ,uZ,uZ,uZ,uZ,uZ,uZ,uZ,uZ,uZ,uZ,uZ,uZ,uZ,uZ,uZ,uZ,uZ,uZ,uZ,uZ]⟩,
 some ⟨.struct [(0,102),(32,3)],33,40,[uZ,uZ,uZ,uZ,uZ,uZ,uZ,uZ,uZ,uZ,uZ,uZ,uZ,uZ,uZ,uZ,uZ,uZ,uZ,uZ,uZ,uZ,uZ,uZ,uZ,uZ,uZ,uZ,uZ,uZ,uZ,uZ,iZ]⟩,
 some ⟨.struct [(0,102),(32,3)],33,40,[uZ,uZ,uZ,uZ,uZ,uZ,uZ,uZ,uZ,uZ,uZ,uZ,uZ,uZ,uZ,uZ,uZ,uZ,uZ,uZ,uZ,uZ,uZ,uZ,uZ,uZ,uZ,uZ,uZ,uZ,uZ,uZ,iZ]⟩,
 some ⟨.slice 25,1,24,[nZ]⟩,
 tF,
 some ⟨.map 65 4,1,8,[.map none]⟩,
 tF,
 tF,
 some ⟨.map 63 4,1,8,[.map none]⟩,
 tF,
 tF,
 tF,
 tF,
 some ⟨.slice 65,1,24,[nZ]⟩,
 tF,
 tF,
 tF,
 tF,
 tF,
 tF,
 none,
 tF,
 tF,
 none,
 tF,
 tF,
 tF,
 none,
 tF,
 tF,
 none,
 tF,
 tF,
 tF,
 tF,
 tF,
 tF,
 tF,
 some ⟨.map 154 23,1,8,[.map none]⟩,
 some ⟨.map 154 23,1,8,[.map none]⟩,
 tF,
 tF,
 tF,
 tF,
 tF,
 tF,
 none,
 tF,
 tF,
 tF,
 tF,
 some ⟨.struct [(0,3),(1,3)],2,16,[iZ,iZ]⟩,
 some ⟨.struct [(0,3),(1,3)],2,16,[iZ,iZ]⟩,
 tF,
 some ⟨.map 3 3,1,8,[.map none]⟩,
 some ⟨.slice 3,1,24,[nZ]⟩,
 tF,
 tF,
 tF,
 tF,
 some ⟨.slice 23,1,24,[nZ]⟩,
 tF,
 tF,
 tF,
 tF,
 tF,
 tF,
 tF,
 tF,
 tF,
 tF,
 tF,
 some ⟨.int .u64,1,8,[.int .u64 0]⟩,
 tF,
 tF,
 tF,
 none,
 tF,
 none,
 tF,
 some ⟨.struct [(0,74),(1,3)],2,32,[nZ,iZ]⟩,
 some ⟨.struct [(0,74),(1,3)],2,32,[nZ,iZ]⟩,
 some ⟨.array 64 4,64,64,[bZ,bZ,bZ,bZ,bZ,bZ,bZ,bZ,bZ,bZ,bZ,bZ,bZ,bZ,bZ,bZ,bZ,bZ,bZ,bZ,bZ,bZ,bZ,bZ,bZ,bZ,bZ,bZ,bZ,bZ,bZ,bZ,bZ,bZ,bZ,bZ,bZ,bZ,bZ,bZ,bZ,bZ,bZ,bZ,bZ,bZ,bZ,bZ,bZ,bZ,bZ,bZ,bZ,bZ,bZ,bZ,bZ,bZ,bZ,bZ,bZ,bZ,bZ,bZ]⟩,
 some ⟨.array 64 4,64,64,[bZ,bZ,bZ,bZ,bZ,bZ,bZ,bZ,bZ,bZ,bZ,bZ,bZ,bZ,bZ,bZ,bZ,bZ,bZ,bZ,bZ,bZ,bZ,bZ,bZ,bZ,bZ,bZ,bZ,bZ,bZ,bZ,bZ,bZ,bZ,bZ,bZ,bZ,bZ,bZ,bZ,bZ,bZ,bZ,bZ,bZ,bZ,bZ,bZ,bZ,bZ,bZ,bZ,bZ,bZ,bZ,bZ,bZ,bZ,bZ,bZ,bZ,bZ,bZ]⟩,
 tF,
 tF,
 tF,
 tF,
 tF,
 tF,
 some ⟨.slice 4,1,24,[nZ]⟩,
 tF,
 tF,
 tF,
 tF,
 tF,
 tF,
 tF,
 tF,
 some ⟨.slice 154,1,24,[nZ]⟩,
 tF,
 tF,
 tF,
 some ⟨.slice 207,1,24,[nZ]⟩,
 some ⟨.struct [(0,3),(1,3),(2,9),(3,205)],4,56,[iZ,iZ,sZ,nZ]⟩,
 some ⟨.struct [(0,3),(1,3),(2,9),(3,205)],4,56,[iZ,iZ,sZ,nZ]⟩,
 tF,
 tF,
 tF,
 tF,
 tF,
 tF,
 tF,
 tF,
 tF,
 tF,
 tF,
 tF,
 tF,
 tF,
 some ⟨.slice 234,1,24,[nZ]⟩,
 some ⟨.struct [(0,222),(1,26)],2,32,[nZ,.nilFunc]⟩,
 some ⟨.struct [(0,222),(1,26)],2,32,[nZ,.nilFunc]⟩,
 none,
 tF,
 some ⟨.ptr 65,1,8,[.pointer none]⟩,
 some ⟨.ptr 3,1,8,[.pointer none]⟩,
 tF,
 tF,
 some ⟨.struct [(0,3),(1,3)],2,16,[iZ,iZ]⟩,
 some ⟨.struct [(0,3),(1,3)],2,16,[iZ,iZ]⟩,
 some ⟨.struct [(0,228),(1,232)],3,24,[.pointer none,iZ,iZ]⟩,
 some ⟨.struct [(0,228),(1,232)],3,24,[.pointer none,iZ,iZ]⟩,
 tF,
 tF,
 tF,
 tF,
 tF,
 tF,
 tF,
 tF,
 tF,
 tF,
 tF,
 tF,
 tF,
 tF,
 tF,
 some ⟨.struct [(0,249)],1,8,[.nilFunc]⟩,
 some ⟨.struct [(0,249)],1,8,[.nilFunc]⟩,
 some ⟨.ptr 297,1,8,[.pointer none]⟩,
 tF,
 tF,
 tF,
 tF,
 tF,
 tF,
 tF,
 tF,
 tF,
 tF,
 tF,
 tF,
 some ⟨.ptr 41,1,8,[.pointer none]⟩,
 some ⟨.ptr 43,1,8,[.pointer none]⟩,
 some ⟨.ptr 45,1,8,[.pointer none]⟩,
 some ⟨.ptr 47,1,8,[.pointer none]⟩,
 some ⟨.ptr 49,1,8,[.pointer none]⟩,
 some ⟨.ptr 51,1,8,[.pointer none]⟩,
 some ⟨.ptr 53,1,8,[.pointer none]⟩,
 some ⟨.ptr 55,1,8,[.pointer none]⟩,
 some ⟨.ptr 57,1,8,[.pointer none]⟩,
 some ⟨.ptr 59,1,8,[.pointer none]⟩,
 some ⟨.slice 74,1,24,[nZ]⟩,
 tF,
 some ⟨.int .u32,1,4,[wZ]⟩,
 some ⟨.array 8 277,8,32,[wZ,wZ,wZ,wZ,wZ,wZ,wZ,wZ]⟩,
 some ⟨.int .u64,1,8,[.int .u64 0]⟩,
 tF,
 some ⟨.ptr 278,1,8,[.pointer none]⟩,
 tF,
 tF,
 tF,
 tF,
 tF,
 some ⟨.int .i64,1,8,[iZ]⟩,
 none,
 tF,
 tF,
 tF,
 tF,
 tF,
 tF,
 tF,
 some ⟨.array 4 251,4,32,[.nilFunc,.nilFunc,.nilFunc,.nilFunc]⟩,
 some ⟨.array 4 251,4,32,[.nilFunc,.nilFunc,.nilFunc,.nilFunc]⟩,
 tF,
 tF,
 tF,
 tF,
 tF,
 tF,
 tF,
 tF,
 tF,
 tF,
 tF,
 tF,
 tF,
 tF,
 some ⟨.array 16 277,16,64,[wZ,wZ,wZ,wZ,wZ,wZ,wZ,wZ,wZ,wZ,wZ,wZ,wZ,wZ,wZ,wZ]⟩,
 some ⟨.array 16 277,16,64,[wZ,wZ,wZ,wZ,wZ,wZ,wZ,wZ,wZ,wZ,wZ,wZ,wZ,wZ,wZ,wZ]⟩,
 some ⟨.slice 277,1,24,[nZ]⟩,
 tF,
 some ⟨.array 16 5,16,16,[uZ,uZ,uZ,uZ,uZ,uZ,uZ,uZ,uZ,uZ,uZ,uZ,uZ,uZ,uZ,uZ]⟩,
 some ⟨.array 10 316,160,160,[uZ,uZ,uZ,uZ,uZ,uZ,uZ,uZ,uZ,uZ,uZ,uZ,uZ,uZ,uZ,uZ,uZ,uZ,uZ,uZ,uZ,uZ,uZ,uZ,uZ,uZ,uZ,uZ,uZ,uZ,uZ,uZ,uZ,uZ,uZ,uZ,uZ,uZ,uZ,uZ,uZ,uZ,uZ,uZ,uZ,uZ,uZ,uZ,uZ,uZ,uZ,uZ,uZ,uZ,uZ,uZ,uZ,uZ,uZ,uZ,uZ,uZ,uZ,uZ,uZ,uZ,uZ,uZ,uZ,uZ,uZ,uZ,uZ,uZ,uZ,uZ,uZ,uZ,uZ,uZ,uZ,uZ,uZ,uZ,uZ,uZ,uZ,uZ,uZ,uZ,uZ,uZ,uZ,uZ,uZ,uZ,uZ,uZ,uZ,uZ,uZ,uZ,uZ,uZ,uZ,uZ,uZ,uZ,uZ,uZ,uZ,uZ,uZ,uZ,uZ,uZ,uZ,uZ,uZ,uZ,uZ,uZ,uZ,uZ,uZ,uZ,uZ,uZ,uZ,uZ,uZ,uZ,uZ,uZ,uZ,uZ,uZ,uZ,uZ,uZ,uZ,uZ,uZ,uZ,uZ,uZ,uZ,uZ,uZ,uZ,uZ,uZ,uZ,uZ,uZ,uZ,uZ,uZ,uZ,uZ]⟩,
 tF,
 tF,
 tF,
 some ⟨.array 16 3,16,128,[iZ,iZ,iZ,iZ,iZ,iZ,iZ,iZ,iZ,iZ,iZ,iZ,iZ,iZ,iZ,iZ]⟩,
 some ⟨.array 10 321,160,1280,[iZ,iZ,iZ,iZ,iZ,iZ,iZ,iZ,iZ,iZ,iZ,iZ,iZ,iZ,iZ,iZ,iZ,iZ,iZ,iZ,iZ,iZ,iZ,iZ,iZ,iZ,iZ,iZ,iZ,iZ,iZ,iZ,iZ,iZ,iZ,iZ,iZ,iZ,iZ,iZ,iZ,iZ,iZ,iZ,iZ,iZ,iZ,iZ,iZ,iZ,iZ,iZ,iZ,iZ,iZ,iZ,iZ,iZ,iZ,iZ,iZ,iZ,iZ,iZ,iZ,iZ,iZ,iZ,iZ,iZ,iZ,iZ,iZ,iZ,iZ,iZ,iZ,iZ,iZ,iZ,iZ,iZ,iZ,iZ,iZ,iZ,iZ,iZ,iZ,iZ,iZ,iZ,iZ,iZ,iZ,iZ,iZ,iZ,iZ,iZ,iZ,iZ,iZ,iZ,iZ,iZ,iZ,iZ,iZ,iZ,iZ,iZ,iZ,iZ,iZ,iZ,iZ,iZ,iZ,iZ,iZ,iZ,iZ,iZ,iZ,iZ,iZ,iZ,iZ,iZ,iZ,iZ,iZ,iZ,iZ,iZ,iZ,iZ,iZ,iZ,iZ,iZ,iZ,iZ,iZ,iZ,iZ,iZ,iZ,iZ,iZ,iZ,iZ,iZ,iZ,iZ,iZ,iZ,iZ,iZ]⟩,
 tF,
 some ⟨.array 4 3,4,32,[iZ,iZ,iZ,iZ]⟩,
 none,
 tF,
 some ⟨.int .u64,1,8,[.int .u64 0]⟩,
 tF,
 tF,
 tF,
 tF,
 some ⟨.array 4 4,4,4,[bZ,bZ,bZ,bZ]⟩,
 tF,
 tF,
 tF,
 tF,
 tF,
 tF,
 some ⟨.ptr 313,1,8,[.pointer none]⟩,
 tF,
 some ⟨.ptr 327,1,8,[.pointer none]⟩,
 none,
 tF,
 tF,
 tF,
 tF,
 some ⟨.struct [(0,17),(1,17),(2,17),(3,9)],4,40,[.pointer none,.pointer none,.pointer none,sZ]⟩,
 some ⟨.struct [(0,17),(1,17),(2,17),(3,9)],4,40,[.pointer none,.pointer none,.pointer none,sZ]⟩,
 some ⟨.array 0 16,0,0,[]⟩,
 some ⟨.struct [(0,349)],0,0,[]⟩,
 some ⟨.struct [(0,349)],0,0,[]⟩,
 tF,
 some ⟨.int .u8,1,1,[uZ]⟩,
 some ⟨.int .u8,1,1,[uZ]⟩,
 tF,
 some ⟨.ptr 5,1,8,[.pointer none]⟩,
 some ⟨.int .i32,1,4,[.int .i32 0]⟩,
 some ⟨.int .i32,1,4,[.int .i32 0]⟩,
 some ⟨.struct [(0,12),(1,12),(2,277),(3,353),(4,5),(5,5),(6,354),(7,355),(8,356),(9,357),(10,358)],11,48,[.int .u64 0,.int .u64 0,wZ,uZ,uZ,uZ,uZ,.nilFunc,.pointer none,.int .i32 0,.int .i32 0]⟩,
 some ⟨.struct [(0,12),(1,12),(2,277),(3,353),(4,5),(5,5),(6,354),(7,355),(8,356),(9,357),(10,358)],11,48,[.int .u64 0,.int .u64 0,wZ,uZ,uZ,uZ,uZ,.nilFunc,.pointer none,.int .i32 0,.int .i32 0]⟩]
def Tryz.τ : Tab := fun T => Tryz.tL[T]?.bind id
def AllOk (P : Program) : Nat → List (Option TE) → Prop
 | _, [] => True
 | n, none :: l => AllOk P (n + 1) l
 | n, some e :: l => TyOk P n e ∧ AllOk P (n + 1) l
theorem AllOk.at {P : Program} : ∀ (l : List (Option TE)) (n i : Nat) (e : TE), AllOk P n l → l[i]? = some (some e) → TyOk P (n + i) e
 | [], _, _, _, _, h => by simp at h
 | none :: l, n, 0, _, _, h => by simp at h
 | none :: l, n, i + 1, e, h, hi => by have := AllOk.at l (n + 1) i e h (by simpa using hi); rwa [Nat.add_assoc, Nat.add_comm 1 i] at this
 | some d :: l, n, 0, e, h, hi => by simp at hi; subst hi; exact h.1
 | some d :: l, n, i + 1, e, h, hi => by have := AllOk.at l (n + 1) i e h.2 (by simpa using hi); rwa [Nat.add_assoc, Nat.add_comm 1 i] at this
@[simp] theorem Tryz.τ1 : Tryz.τ 1 = some ⟨.func,1,8,[.nilFunc]⟩ := rfl
@[simp] theorem Tryz.τ2 : Tryz.τ 2 = some ⟨.int .i64,1,8,[iZ]⟩ := rfl
@[simp] theorem Tryz.τ3 : Tryz.τ 3 = some ⟨.int .i64,1,8,[iZ]⟩ := rfl
@[simp] theorem Tryz.τ4 : Tryz.τ 4 = some ⟨.bool,1,1,[bZ]⟩ := rfl
@[simp] theorem Tryz.τ5 : Tryz.τ 5 = some ⟨.int .u8,1,1,[uZ]⟩ := rfl
@[simp] theorem Tryz.τ6 : Tryz.τ 6 = some ⟨.int .u8,1,1,[uZ]⟩ := rfl
@[simp] theorem Tryz.τ7 : Tryz.τ 7 = some ⟨.struct [(0,2),(1,3),(2,4),(3,6)],4,24,[iZ,iZ,bZ,uZ]⟩ := rfl
@[simp] theorem Tryz.τ8 : Tryz.τ 8 = some ⟨.struct [(0,2),(1,3),(2,4),(3,6)],4,24,[iZ,iZ,bZ,uZ]⟩ := rfl
@[simp] theorem Tryz.τ9 : Tryz.τ 9 = some ⟨.string,1,16,[sZ]⟩ := rfl
@[simp] theorem Tryz.τ10 : Tryz.τ 10 = some ⟨.string,1,16,[sZ]⟩ := rfl
@[simp] theorem Tryz.τ11 : Tryz.τ 11 = some ⟨.string,1,16,[sZ]⟩ := rfl
@[simp] theorem Tryz.τ12 : Tryz.τ 12 = some ⟨.int .u64,1,8,[.int .u64 0]⟩ := rfl
@[simp] theorem Tryz.τ13 : Tryz.τ 13 = some ⟨.struct [(0,9),(1,12)],2,24,[sZ,.int .u64 0]⟩ := rfl
@[simp] theorem Tryz.τ14 : Tryz.τ 14 = some ⟨.struct [(0,9),(1,12)],2,24,[sZ,.int .u64 0]⟩ := rfl
@[simp] theorem Tryz.τ15 : Tryz.τ 15 = some ⟨.ptr 348,1,8,[.pointer none]⟩ := rfl
@[simp] theorem Tryz.τ16 : Tryz.τ 16 = some ⟨.ptr 351,1,8,[.pointer none]⟩ := rfl
@[simp] theorem Tryz.τ17 : Tryz.τ 17 = some ⟨.ptr 360,1,8,[.pointer none]⟩ := rfl
@[simp] theorem Tryz.τ18 : Tryz.τ 18 = some ⟨.struct [(0,17)],1,8,[.pointer none]⟩ := rfl
@[simp] theorem Tryz.τ19 : Tryz.τ 19 = some ⟨.struct [(0,17)],1,8,[.pointer none]⟩ := rfl
@[simp] theorem Tryz.τ20 : Tryz.τ 20 = some ⟨.iface,1,16,[.nilIface]⟩ := rfl
@[simp] theorem Tryz.τ21 : Tryz.τ 21 = some ⟨.int .i32,1,4,[.int .i32 0]⟩ := rfl
@[simp] theorem Tryz.τ22 : Tryz.τ 22 = some ⟨.slice 104,1,24,[nZ]⟩ := rfl
@[simp] theorem Tryz.τ23 : Tryz.τ 23 = some ⟨.slice 70,1,24,[nZ]⟩ := rfl
@[simp] theorem Tryz.τ24 : Tryz.τ 24 = some ⟨.struct [(0,23)],1,24,[nZ]⟩ := rfl
@[simp] theorem Tryz.τ25 : Tryz.τ 25 = some ⟨.struct [(0,23)],1,24,[nZ]⟩ := rfl
@[simp] theorem Tryz.τ26 : Tryz.τ 26 = some ⟨.func,1,8,[.nilFunc]⟩ := rfl
@[simp] theorem Tryz.τ27 : Tryz.τ 27 = some ⟨.func,1,8,[.nilFunc]⟩ := rfl
@[simp] theorem Tryz.τ28 : Tryz.τ 28 = some ⟨.func,1,8,[.nilFunc]⟩ := rfl
@[simp] theorem Tryz.τ29 : Tryz.τ 29 = some ⟨.int .i64,1,8,[iZ]⟩ := rfl
@[simp] theorem Tryz.τ31 : Tryz.τ 31 = some ⟨.func,1,8,[.nilFunc]⟩ := rfl
@[simp] theorem Tryz.τ32 : Tryz.τ 32 = some ⟨.slice 63,1,24,[nZ]⟩ := rfl
@[simp] theorem Tryz.τ33 : Tryz.τ 33 = some ⟨.func,1,8,[.nilFunc]⟩ := rfl
@[simp] theorem Tryz.τ34 : Tryz.τ 34 = some ⟨.func,1,8,[.nilFunc]⟩ := rfl
@[simp] theorem Tryz.τ35 : Tryz.τ 35 = some ⟨.func,1,8,[.nilFunc]⟩ := rfl
@[simp] theorem Tryz.τ36 : Tryz.τ 36 = some ⟨.func,1,8,[.nilFunc]⟩ := rfl
@[simp] theorem Tryz.τ37 : Tryz.τ 37 = some ⟨.func,1,8,[.nilFunc]⟩ := rfl
@[simp] theorem Tryz.τ38 : Tryz.τ 38 = some ⟨.func,1,8,[.nilFunc]⟩ := rfl
@[simp] theorem Tryz.τ39 : Tryz.τ 39 = some ⟨.func,1,8,[.nilFunc]⟩ := rfl
@[simp] theorem Tryz.τ40 : Tryz.τ 40 = some ⟨.struct [(0,3),(1,3),(2,3),(3,3),(4,3),(5,3),(6,3),(7,3)],8,64,[iZ,iZ,iZ,iZ,iZ,iZ,iZ,iZ]⟩ := rfl
@[simp] theorem Tryz.τ41 : Tryz.τ 41 = some ⟨.struct [(0,3),(1,3),(2,3),(3,3),(4,3),(5,3),(6,3),(7,3)],8,64,[iZ,iZ,iZ,iZ,iZ,iZ,iZ,iZ]⟩ := rfl
@[simp] theorem Tryz.τ42 : Tryz.τ 42 = some ⟨.struct [(0,3),(1,3),(2,3),(3,3)],4,32,[iZ,iZ,iZ,iZ]⟩ := rfl
@[simp] theorem Tryz.τ43 : Tryz.τ 43 = some ⟨.struct [(0,3),(1,3),(2,3),(3,3)],4,32,[iZ,iZ,iZ,iZ]⟩ := rfl
@[simp] theorem Tryz.τ44 : Tryz.τ 44 = some ⟨.struct [(0,3),(1,3),(2,3),(3,3),(4,3)],5,40,[iZ,iZ,iZ,iZ,iZ]⟩ := rfl
@[simp] theorem Tryz.τ45 : Tryz.τ 45 = some ⟨.struct [(0,3),(1,3),(2,3),(3,3),(4,3)],5,40,[iZ,iZ,iZ,iZ,iZ]⟩ := rfl
@[simp] theorem Tryz.τ46 : Tryz.τ 46 = some ⟨.struct [(0,3),(1,3),(2,3),(3,3),(4,3),(5,3),(6,3),(7,3)],8,64,[iZ,iZ,iZ,iZ,iZ,iZ,iZ,iZ]⟩ := rfl
@[simp] theorem Tryz.τ47 : Tryz.τ 47 = some ⟨.struct [(0,3),(1,3),(2,3),(3,3),(4,3),(5,3),(6,3),(7,3)],8,64,[iZ,iZ,iZ,iZ,iZ,iZ,iZ,iZ]⟩ := rfl
@[simp] theorem Tryz.τ48 : Tryz.τ 48 = some ⟨.struct [(0,3),(1,3),(2,3),(3,3)],4,32,[iZ,iZ,iZ,iZ]⟩ := rfl
@[simp] theorem Tryz.τ49 : Tryz.τ 49 = some ⟨.struct [(0,3),(1,3),(2,3),(3,3)],4,32,[iZ,iZ,iZ,iZ]⟩ := rfl
@[simp] theorem Tryz.τ50 : Tryz.τ 50 = some ⟨.struct [(0,3),(1,3),(2,3),(3,3)],4,32,[iZ,iZ,iZ,iZ]⟩ := rfl
@[simp] theorem Tryz.τ51 : Tryz.τ 51 = some ⟨.struct [(0,3),(1,3),(2,3),(3,3)],4,32,[iZ,iZ,iZ,iZ]⟩ := rfl
@[simp] theorem Tryz.τ52 : Tryz.τ 52 = some ⟨.struct [(0,3),(1,3)],2,16,[iZ,iZ]⟩ := rfl
@[simp] theorem Tryz.τ53 : Tryz.τ 53 = some ⟨.struct [(0,3),(1,3)],2,16,[iZ,iZ]⟩ := rfl
@[simp] theorem Tryz.τ54 : Tryz.τ 54 = some ⟨.struct [(0,3),(1,3),(2,3),(3,3)],4,32,[iZ,iZ,iZ,iZ]⟩ := rfl
@[simp] theorem Tryz.τ55 : Tryz.τ 55 = some ⟨.struct [(0,3),(1,3),(2,3),(3,3)],4,32,[iZ,iZ,iZ,iZ]⟩ := rfl
@[simp] theorem Tryz.τ56 : Tryz.τ 56 = some ⟨.struct [(0,3),(1,3),(2,3),(3,3)],4,32,[iZ,iZ,iZ,iZ]⟩ := rfl
@[simp] theorem Tryz.τ57 : Tryz.τ 57 = some ⟨.struct [(0,3),(1,3),(2,3),(3,3)],4,32,[iZ,iZ,iZ,iZ]⟩ := rfl
@[simp] theorem Tryz.τ58 : Tryz.τ 58 = some ⟨.struct [(0,3),(1,3),(2,3),(3,3),(4,3),(5,3)],6,48,[iZ,iZ,iZ,iZ,iZ,iZ]⟩ := rfl
@[simp] theorem Tryz.τ59 : Tryz.τ 59 = some ⟨.struct [(0,3),(1,3),(2,3),(3,3),(4,3),(5,3)],6,48,[iZ,iZ,iZ,iZ,iZ,iZ]⟩ := rfl
@[simp] theorem Tryz.τ60 : Tryz.τ 60 = some ⟨.struct [(0,3),(1,4)],2,16,[iZ,bZ]⟩ := rfl
@[simp] theorem Tryz.τ61 : Tryz.τ 61 = some ⟨.struct [(0,3),(1,4)],2,16,[iZ,bZ]⟩ := rfl
@[simp] theorem Tryz.τ62 : Tryz.τ 62 = some ⟨.struct [(0,3),(1,3)],2,16,[iZ,iZ]⟩ := rfl
@[simp] theorem Tryz.τ63 : Tryz.τ 63 = some ⟨.struct [(0,3),(1,3)],2,16,[iZ,iZ]⟩ := rfl
@[simp] theorem Tryz.τ64 : Tryz.τ 64 = some ⟨.struct [(0,3),(1,3),(2,3),(3,3),(4,41),(12,43),(16,45),(21,47),(29,49),(33,51),(37,53),(39,55),(43,57),(47,59),(53,61),(55,63)],57,456,[iZ,iZ,iZ,iZ,iZ,iZ,iZ,iZ,iZ,iZ,iZ,iZ,iZ,iZ,iZ,iZ,iZ,iZ,iZ,iZ,iZ,iZ,iZ,iZ,iZ,iZ,iZ,iZ,iZ,iZ,iZ,iZ,iZ,iZ,iZ,iZ,iZ,iZ,iZ,iZ,iZ,iZ,iZ,iZ,iZ,iZ,iZ,iZ,iZ,iZ,iZ,iZ,iZ,iZ,bZ,iZ,iZ]⟩ := rfl
@[simp] theorem Tryz.τ65 : Tryz.τ 65 = some ⟨.struct [(0,3),(1,3),(2,3),(3,3),(4,41),(12,43),(16,45),(21,47),(29,49),(33,51),(37,53),(39,55),(43,57),(47,59),(53,61),(55,63)],57,456,[iZ,iZ,iZ,iZ,iZ,iZ,iZ,iZ,iZ,iZ,iZ,iZ,iZ,iZ,iZ,iZ,iZ,iZ,iZ,iZ,iZ,iZ,iZ,iZ,iZ,iZ,iZ,iZ,iZ,iZ,iZ,iZ,iZ,iZ,iZ,iZ,iZ,iZ,iZ,iZ,iZ,iZ,iZ,iZ,iZ,iZ,iZ,iZ,iZ,iZ,iZ,iZ,iZ,iZ,bZ,iZ,iZ]⟩ := rfl
@[simp] theorem Tryz.τ66 : Tryz.τ 66 = some ⟨.slice 102,1,24,[nZ]⟩ := rfl
@[simp] theorem Tryz.τ67 : Tryz.τ 67 = some ⟨.struct [(0,3),(1,66),(2,66),(3,66)],4,80,[iZ,nZ,nZ,nZ]⟩ := rfl
@[simp] theorem Tryz.τ68 : Tryz.τ 68 = some ⟨.struct [(0,3),(1,66),(2,66),(3,66)],4,80,[iZ,nZ,nZ,nZ]⟩ := rfl
@[simp] theorem Tryz.τ69 : Tryz.τ 69 = some ⟨.struct [(0,65),(57,68)],61,536,[iZ,iZ,iZ,iZ,iZ,iZ,iZ,iZ,iZ,iZ,iZ,iZ,iZ,iZ,iZ,iZ,iZ,iZ,iZ,iZ,iZ,iZ,iZ,iZ,iZ,iZ,iZ,iZ,iZ,iZ,iZ,iZ,iZ,iZ,iZ,iZ,iZ,iZ,iZ,iZ,iZ,iZ,iZ,iZ,iZ,iZ,iZ,iZ,iZ,iZ,iZ,iZ,iZ,iZ,bZ,iZ,iZ,iZ,nZ,nZ,nZ]⟩ := rfl
@[simp] theorem Tryz.τ70 : Tryz.τ 70 = some ⟨.struct [(0,65),(57,68)],61,536,[iZ,iZ,iZ,iZ,iZ,iZ,iZ,iZ,iZ,iZ,iZ,iZ,iZ,iZ,iZ,iZ,iZ,iZ,iZ,iZ,iZ,iZ,iZ,iZ,iZ,iZ,iZ,iZ,iZ,iZ,iZ,iZ,iZ,iZ,iZ,iZ,iZ,iZ,iZ,iZ,iZ,iZ,iZ,iZ,iZ,iZ,iZ,iZ,iZ,iZ,iZ,iZ,iZ,iZ,bZ,iZ,iZ,iZ,nZ,nZ,nZ]⟩ := rfl
@[simp] theorem Tryz.τ72 : Tryz.τ 72 = some ⟨.func,1,8,[.nilFunc]⟩ := rfl
@[simp] theorem Tryz.τ73 : Tryz.τ 73 = some ⟨.func,1,8,[.nilFunc]⟩ := rfl
@[simp] theorem Tryz.τ74 : Tryz.τ 74 = some ⟨.slice 5,1,24,[nZ]⟩ := rfl
@[simp] theorem Tryz.τ75 : Tryz.τ 75 = some ⟨.struct [(0,74),(1,3),(2,3)],3,40,[nZ,iZ,iZ]⟩ := rfl
@[simp] theorem Tryz.τ76 : Tryz.τ 76 = some ⟨.struct [(0,74),(1,3),(2,3)],3,40,[nZ,iZ,iZ]⟩ := rfl
@[simp] theorem Tryz.τ77 : Tryz.τ 77 = some ⟨.func,1,8,[.nilFunc]⟩ := rfl
@[simp] theorem Tryz.τ78 : Tryz.τ 78 = some ⟨.func,1,8,[.nilFunc]⟩ := rfl
@[simp] theorem Tryz.τ80 : Tryz.τ 80 = some ⟨.func,1,8,[.nilFunc]⟩ := rfl
@[simp] theorem Tryz.τ81 : Tryz.τ 81 = some ⟨.func,1,8,[.nilFunc]⟩ := rfl
@[simp] theorem Tryz.τ82 : Tryz.τ 82 = some ⟨.func,1,8,[.nilFunc]⟩ := rfl
@[simp] theorem Tryz.τ83 : Tryz.τ 83 = some ⟨.func,1,8,[.nilFunc]⟩ := rfl
@[simp] theorem Tryz.τ84 : Tryz.τ 84 = some ⟨.func,1,8,[.nilFunc]⟩ := rfl
@[simp] theorem Tryz.τ85 : Tryz.τ 85 = some ⟨.func,1,8,[.nilFunc]⟩ := rfl
@[simp] theorem Tryz.τ86 : Tryz.τ 86 = some ⟨.func,1,8,[.nilFunc]⟩ := rfl
@[simp] theorem Tryz.τ87 : Tryz.τ 87 = some ⟨.slice 90,1,24,[nZ]⟩ := rfl
@[simp] theorem Tryz.τ88 : Tryz.τ 88 = some ⟨.func,1,8,[.nilFunc]⟩ := rfl
@[simp] theorem Tryz.τ89 : Tryz.τ 89 = some ⟨.struct [(0,70),(61,70)],122,1072,[iZ,iZ,iZ,iZ,iZ,iZ,iZ,iZ,iZ,iZ,iZ,iZ,iZ,iZ,iZ,iZ,iZ,iZ,iZ,iZ,iZ,iZ,iZ,iZ,iZ,iZ,iZ,iZ,iZ,iZ,iZ,iZ,iZ,iZ,iZ,iZ,iZ,iZ,iZ,iZ,iZ,iZ,iZ,iZ,iZ,iZ,iZ,iZ,iZ,iZ,iZ,iZ,iZ,iZ,bZ,iZ,iZ,iZ,nZ,nZ,nZ,iZ,iZ,iZ,iZ,iZ,iZ,iZ,iZ,iZ,iZ,iZ,iZ,iZ,iZ,iZ,iZ,iZ,iZ,iZ,iZ,iZ,iZ,iZ,iZ,iZ,iZ,iZ,iZ,iZ,iZ,iZ,iZ,iZ,iZ,iZ,iZ,iZ,iZ,iZ,iZ,iZ,iZ,iZ,iZ,iZ,iZ,iZ,iZ,iZ,iZ,iZ,iZ,iZ,iZ,bZ,iZ,iZ,iZ,nZ,nZ,nZ]⟩ := rfl
@[simp] theorem Tryz.τ90 : Tryz.τ 90 = some ⟨.struct [(0,70),(61,70)],122,1072,[iZ,iZ,iZ,iZ,iZ,iZ,iZ,iZ,iZ,iZ,iZ,iZ,iZ,iZ,iZ,iZ,iZ,iZ,iZ,iZ,iZ,iZ,iZ,iZ,iZ,iZ,iZ,iZ,iZ,iZ,iZ,iZ,iZ,iZ,iZ,iZ,iZ,iZ,iZ,iZ,iZ,iZ,iZ,iZ,iZ,iZ,iZ,iZ,iZ,iZ,iZ,iZ,iZ,iZ,bZ,iZ,iZ,iZ,nZ,nZ,nZ,iZ,iZ,iZ,iZ,iZ,iZ,iZ,iZ,iZ,iZ,iZ,iZ,iZ,iZ,iZ,iZ,iZ,iZ,iZ,iZ,iZ,iZ,iZ,iZ,iZ,iZ,iZ,iZ,iZ,iZ,iZ,iZ,iZ,iZ,iZ,iZ,iZ,iZ,iZ,iZ,iZ,iZ,iZ,iZ,iZ,iZ,iZ,iZ,iZ,iZ,iZ,iZ,iZ,iZ,bZ,iZ,iZ,iZ,nZ,nZ,nZ]⟩ := rfl
@[simp] theorem Tryz.τ91 : Tryz.τ 91 = some ⟨.func,1,8,[.nilFunc]⟩ := rfl
@[simp] theorem Tryz.τ92 : Tryz.τ 92 = some ⟨.func,1,8,[.nilFunc]⟩ := rfl
@[simp] theorem Tryz.τ93 : Tryz.τ 93 = some ⟨.func,1,8,[.nilFunc]⟩ := rfl
@[simp] theorem Tryz.τ95 : Tryz.τ 95 = some ⟨.func,1,8,[.nilFunc]⟩ := rfl
@[simp] theorem Tryz.τ96 : Tryz.τ 96 = some ⟨.func,1,8,[.nilFunc]⟩ := rfl
@[simp] theorem Tryz.τ97 : Tryz.τ 97 = some ⟨.func,1,8,[.nilFunc]⟩ := rfl
@[simp] theorem Tryz.τ98 : Tryz.τ 98 = some ⟨.func,1,8,[.nilFunc]⟩ := rfl
@[simp] theorem Tryz.τ99 : Tryz.τ 99 = some ⟨.func,1,8,[.nilFunc]⟩ := rfl
@[simp] theorem Tryz.τ100 : Tryz.τ 100 = some ⟨.func,1,8,[.nilFunc]⟩ := rfl
@[simp] theorem Tryz.τ101 : Tryz.τ 101 = some ⟨.array 32 5,32,32,[uZ,uZ,uZ,uZ,uZ,uZ,uZ,uZ,uZ,uZ,uZ,uZ,uZ,uZ,uZ,uZ,uZ,uZ,uZ,uZ,uZ,uZ,uZ,uZ,uZ,uZ,uZ,uZ,uZ,uZ,uZ,uZ]⟩ := rfl
@[simp] theorem Tryz.τ102 : Tryz.τ 102 = some ⟨.array 32 5,32,32,[uZ,uZ,uZ,uZ,uZ,uZ,uZ,uZ,uZ,uZ,uZ,uZ,uZ,uZ,uZ,uZ,uZ,uZ,uZ,uZ,uZ,uZ,uZ,uZ,uZ,uZ,uZ,uZ,uZ,uZ,uZ,uZ]⟩ := rfl
@[simp] theorem Tryz.τ103 : Tryz.τ 103 = some ⟨.struct [(0,102),(32,3)],33,40,[uZ,uZ,uZ,uZ,uZ,uZ,uZ,uZ,uZ,uZ,uZ,uZ,uZ,uZ,uZ,uZ,uZ,uZ,uZ,uZ,uZ,uZ,uZ,uZ,uZ,uZ,uZ,uZ,uZ,uZ,uZ,uZ,iZ]⟩ := rfl
@[simp] theorem Tryz.τ104 : Tryz.τ 104 = some ⟨.struct [(0,102),(32,3)],33,40,[uZ,uZ,uZ,uZ,uZ,uZ,uZ,uZ,uZ,uZ,uZ,uZ,uZ,uZ,uZ,uZ,uZ,uZ,uZ,uZ,uZ,uZ,uZ,uZ,uZ,uZ,uZ,uZ,uZ,uZ,uZ,uZ,iZ]⟩ := rfl
@[simp] theorem Tryz.τ105 : Tryz.τ 105 = some ⟨.slice 25,1,24,[nZ]⟩ := rfl
@[simp] theorem Tryz.τ106 : Tryz.τ 106 = some ⟨.func,1,8,[.nilFunc]⟩ := rfl
@[simp] theorem Tryz.τ107 : Tryz.τ 107 = some ⟨.map 65 4,1,8,[.map none]⟩ := rfl
@[simp] theorem Tryz.τ108 : Tryz.τ 108 = some ⟨.func,1,8,[.nilFunc]⟩ := rfl
@[simp] theorem Tryz.τ109 : Tryz.τ 109 = some ⟨.func,1,8,[.nilFunc]⟩ := rfl
@[simp] theorem Tryz.τ110 : Tryz.τ 110 = some ⟨.map 63 4,1,8,[.map none]⟩ := rfl
@[simp] theorem Tryz.τ111 : Tryz.τ 111 = some ⟨.func,1,8,[.nilFunc]⟩ := rfl
@[simp] theorem Tryz.τ112 : Tryz.τ 112 = some ⟨.func,1,8,[.nilFunc]⟩ := rfl
@[simp] theorem Tryz.τ113 : Tryz.τ 113 = some ⟨.func,1,8,[.nilFunc]⟩ := rfl
@[simp] theorem Tryz.τ114 : Tryz.τ 114 = some ⟨.func,1,8,[.nilFunc]⟩ := rfl
@[simp] theorem Tryz.τ115 : Tryz.τ 115 = some ⟨.slice 65,1,24,[nZ]⟩ := rfl
@[simp] theorem Tryz.τ116 : Tryz.τ 116 = some ⟨.func,1,8,[.nilFunc]⟩ := rfl
@[simp] theorem Tryz.τ117 : Tryz.τ 117 = some ⟨.func,1,8,[.nilFunc]⟩ := rfl
@[simp] theorem Tryz.τ118 : Tryz.τ 118 = some ⟨.func,1,8,[.nilFunc]⟩ := rfl
@[simp] theorem Tryz.τ119 : Tryz.τ 119 = some ⟨.func,1,8,[.nilFunc]⟩ := rfl
@[simp] theorem Tryz.τ120 : Tryz.τ 120 = some ⟨.func,1,8,[.nilFunc]⟩ := rfl
@[simp] theorem Tryz.τ121 : Tryz.τ 121 = some ⟨.func,1,8,[.nilFunc]⟩ := rfl
@[simp] theorem Tryz.τ123 : Tryz.τ 123 = some ⟨.func,1,8,[.nilFunc]⟩ := rfl
@[simp] theorem Tryz.τ124 : Tryz.τ 124 = some ⟨.func,1,8,[.nilFunc]⟩ := rfl
@[simp] theorem Tryz.τ126 : Tryz.τ 126 = some ⟨.func,1,8,[.nilFunc]⟩ := rfl
@[simp] theorem Tryz.τ127 : Tryz.τ 127 = some ⟨.func,1,8,[.nilFunc]⟩ := rfl
@[simp] theorem Tryz.τ128 : Tryz.τ 128 = some ⟨.func,1,8,[.nilFunc]⟩ := rfl
@[simp] theorem Tryz.τ130 : Tryz.τ 130 = some ⟨.func,1,8,[.nilFunc]⟩ := rfl
@[simp] theorem Tryz.τ131 : Tryz.τ 131 = some ⟨.func,1,8,[.nilFunc]⟩ := rfl
@[simp] theorem Tryz.τ133 : Tryz.τ 133 = some ⟨.func,1,8,[.nilFunc]⟩ := rfl
@[simp] theorem Tryz.τ134 : Tryz.τ 134 = some ⟨.func,1,8,[.nilFunc]⟩ := rfl
@[simp] theorem Tryz.τ135 : Tryz.τ 135 = some ⟨.func,1,8,[.nilFunc]⟩ := rfl
@[simp] theorem Tryz.τ136 : Tryz.τ 136 = some ⟨.func,1,8,[.nilFunc]⟩ := rfl
@[simp] theorem Tryz.τ137 : Tryz.τ 137 = some ⟨.func,1,8,[.nilFunc]⟩ := rfl
@[simp] theorem Tryz.τ138 : Tryz.τ 138 = some ⟨.func,1,8,[.nilFunc]⟩ := rfl
@[simp] theorem Tryz.τ139 : Tryz.τ 139 = some ⟨.func,1,8,[.nilFunc]⟩ := rfl
@[simp] theorem Tryz.τ140 : Tryz.τ 140 = some ⟨.map 154 23,1,8,[.map none]⟩ := rfl
@[simp] theorem Tryz.τ141 : Tryz.τ 141 = some ⟨.map 154 23,1,8,[.map none]⟩ := rfl
@[simp] theorem Tryz.τ142 : Tryz.τ 142 = some ⟨.func,1,8,[.nilFunc]⟩ := rfl
@[simp] theorem Tryz.τ143 : Tryz.τ 143 = some ⟨.func,1,8,[.nilFunc]⟩ := rfl
@[simp] theorem Tryz.τ144 : Tryz.τ 144 = some ⟨.func,1,8,[.nilFunc]⟩ := rfl
@[simp] theorem Tryz.τ145 : Tryz.τ 145 = some ⟨.func,1,8,[.nilFunc]⟩ := rfl
@[simp] theorem Tryz.τ146 : Tryz.τ 146 = some ⟨.func,1,8,[.nilFunc]⟩ := rfl
@[simp] theorem Tryz.τ147 : Tryz.τ 147 = some ⟨.func,1,8,[.nilFunc]⟩ := rfl
@[simp] theorem Tryz.τ149 : Tryz.τ 149 = some ⟨.func,1,8,[.nilFunc]⟩ := rfl
@[simp] theorem Tryz.τ150 : Tryz.τ 150 = some ⟨.func,1,8,[.nilFunc]⟩ := rfl
@[simp] theorem Tryz.τ151 : Tryz.τ 151 = some ⟨.func,1,8,[.nilFunc]⟩ := rfl
@[simp] theorem Tryz.τ152 : Tryz.τ 152 = some ⟨.func,1,8,[.nilFunc]⟩ := rfl
@[simp] theorem Tryz.τ153 : Tryz.τ 153 = some ⟨.struct [(0,3),(1,3)],2,16,[iZ,iZ]⟩ := rfl
@[simp] theorem Tryz.τ154 : Tryz.τ 154 = some ⟨.struct [(0,3),(1,3)],2,16,[iZ,iZ]⟩ := rfl
@[simp] theorem Tryz.τ155 : Tryz.τ 155 = some ⟨.func,1,8,[.nilFunc]⟩ := rfl
@[simp] theorem Tryz.τ156 : Tryz.τ 156 = some ⟨.map 3 3,1,8,[.map none]⟩ := rfl
@[simp] theorem Tryz.τ157 : Tryz.τ 157 = some ⟨.slice 3,1,24,[nZ]⟩ := rfl
@[simp] theorem Tryz.τ158 : Tryz.τ 158 = some ⟨.func,1,8,[.nilFunc]⟩ := rfl
@[simp] theorem Tryz.τ159 : Tryz.τ 159 = some ⟨.func,1,8,[.nilFunc]⟩ := rfl
@[simp] theorem Tryz.τ160 : Tryz.τ 160 = some ⟨.func,1,8,[.nilFunc]⟩ := rfl
@[simp] theorem Tryz.τ161 : Tryz.τ 161 = some ⟨.func,1,8,[.nilFunc]⟩ := rfl
@[simp] theorem Tryz.τ162 : Tryz.τ 162 = some ⟨.slice 23,1,24,[nZ]⟩ := rfl
@[simp] theorem Tryz.τ163 : Tryz.τ 163 = some ⟨.func,1,8,[.nilFunc]⟩ := rfl
@[simp] theorem Tryz.τ164 : Tryz.τ 164 = some ⟨.func,1,8,[.nilFunc]⟩ := rfl
@[simp] theorem Tryz.τ165 : Tryz.τ 165 = some ⟨.func,1,8,[.nilFunc]⟩ := rfl
@[simp] theorem Tryz.τ166 : Tryz.τ 166 = some ⟨.func,1,8,[.nilFunc]⟩ := rfl
@[simp] theorem Tryz.τ167 : Tryz.τ 167 = some ⟨.func,1,8,[.nilFunc]⟩ := rfl
@[simp] theorem Tryz.τ168 : Tryz.τ 168 = some ⟨.func,1,8,[.nilFunc]⟩ := rfl
@[simp] theorem Tryz.τ169 : Tryz.τ 169 = some ⟨.func,1,8,[.nilFunc]⟩ := rfl
@[simp] theorem Tryz.τ170 : Tryz.τ 170 = some ⟨.func,1,8,[.nilFunc]⟩ := rfl
@[simp] theorem Tryz.τ171 : Tryz.τ 171 = some ⟨.func,1,8,[.nilFunc]⟩ := rfl
@[simp] theorem Tryz.τ172 : Tryz.τ 172 = some ⟨.func,1,8,[.nilFunc]⟩ := rfl
@[simp] theorem Tryz.τ173 : Tryz.τ 173 = some ⟨.func,1,8,[.nilFunc]⟩ := rfl
@[simp] theorem Tryz.τ174 : Tryz.τ 174 = some ⟨.int .u64,1,8,[.int .u64 0]⟩ := rfl
@[simp] theorem Tryz.τ175 : Tryz.τ 175 = some ⟨.func,1,8,[.nilFunc]⟩ := rfl
@[simp] theorem Tryz.τ176 : Tryz.τ 176 = some ⟨.func,1,8,[.nilFunc]⟩ := rfl
@[simp] theorem Tryz.τ177 : Tryz.τ 177 = some ⟨.func,1,8,[.nilFunc]⟩ := rfl
@[simp] theorem Tryz.τ179 : Tryz.τ 179 = some ⟨.func,1,8,[.nilFunc]⟩ := rfl
@[simp] theorem Tryz.τ181 : Tryz.τ 181 = some ⟨.func,1,8,[.nilFunc]⟩ := rfl
@[simp] theorem Tryz.τ182 : Tryz.τ 182 = some ⟨.struct [(0,74),(1,3)],2,32,[nZ,iZ]⟩ := rfl
@[simp] theorem Tryz.τ183 : Tryz.τ 183 = some ⟨.struct [(0,74),(1,3)],2,32,[nZ,iZ]⟩ := rfl
@[simp] theorem Tryz.τ184 : Tryz.τ 184 = some ⟨.array 64 4,64,64,[bZ,bZ,bZ,bZ,bZ,bZ,bZ,bZ,bZ,bZ,bZ,bZ,bZ,bZ,bZ,bZ,bZ,bZ,bZ,bZ,bZ,bZ,bZ,bZ,bZ,bZ,bZ,bZ,bZ,bZ,bZ,bZ,bZ,bZ,bZ,bZ,bZ,bZ,bZ,bZ,bZ,bZ,bZ,bZ,bZ,bZ,bZ,bZ,bZ,bZ,bZ,bZ,bZ,bZ,bZ,bZ,bZ,bZ,bZ,bZ,bZ,bZ,bZ,bZ]⟩ := rfl
@[simp] theorem Tryz.τ185 : Tryz.τ 185 = some ⟨.array 64 4,64,64,[bZ,bZ,bZ,bZ,bZ,bZ,bZ,bZ,bZ,bZ,bZ,bZ,bZ,bZ,bZ,bZ,bZ,bZ,bZ,bZ,bZ,bZ,bZ,bZ,bZ,bZ,bZ,bZ,bZ,bZ,bZ,bZ,bZ,bZ,bZ,bZ,bZ,bZ,bZ,bZ,bZ,bZ,bZ,bZ,bZ,bZ,bZ,bZ,bZ,bZ,bZ,bZ,bZ,bZ,bZ,bZ,bZ,bZ,bZ,bZ,bZ,bZ,bZ,bZ]⟩ := rfl
@[simp] theorem Tryz.τ186 : Tryz.τ 186 = some ⟨.func,1,8,[.nilFunc]⟩ := rfl
@[simp] theorem Tryz.τ187 : Tryz.τ 187 = some ⟨.func,1,8,[.nilFunc]⟩ := rfl
@[simp] theorem Tryz.τ188 : Tryz.τ 188 = some ⟨.func,1,8,[.nilFunc]⟩ := rfl
@[simp] theorem Tryz.τ189 : Tryz.τ 189 = some ⟨.func,1,8,[.nilFunc]⟩ := rfl
@[simp] theorem Tryz.τ190 : Tryz.τ 190 = some ⟨.func,1,8,[.nilFunc]⟩ := rfl
@[simp] theorem Tryz.τ191 : Tryz.τ 191 = some ⟨.func,1,8,[.nilFunc]⟩ := rfl
@[simp] theorem Tryz.τ192 : Tryz.τ 192 = some ⟨.slice 4,1,24,[nZ]⟩ := rfl
@[simp] theorem Tryz.τ193 : Tryz.τ 193 = some ⟨.func,1,8,[.nilFunc]⟩ := rfl
@[simp] theorem Tryz.τ194 : Tryz.τ 194 = some ⟨.func,1,8,[.nilFunc]⟩ := rfl
@[simp] theorem Tryz.τ195 : Tryz.τ 195 = some ⟨.func,1,8,[.nilFunc]⟩ := rfl
@[simp] theorem Tryz.τ196 : Tryz.τ 196 = some ⟨.func,1,8,[.nilFunc]⟩ := rfl
@[simp] theorem Tryz.τ197 : Tryz.τ 197 = some ⟨.func,1,8,[.nilFunc]⟩ := rfl
@[simp] theorem Tryz.τ198 : Tryz.τ 198 = some ⟨.func,1,8,[.nilFunc]⟩ := rfl
@[simp] theorem Tryz.τ199 : Tryz.τ 199 = some ⟨.func,1,8,[.nilFunc]⟩ := rfl
@[simp] theorem Tryz.τ200 : Tryz.τ 200 = some ⟨.func,1,8,[.nilFunc]⟩ := rfl
@[simp] theorem Tryz.τ201 : Tryz.τ 201 = some ⟨.slice 154,1,24,[nZ]⟩ := rfl
@[simp] theorem Tryz.τ202 : Tryz.τ 202 = some ⟨.func,1,8,[.nilFunc]⟩ := rfl
@[simp] theorem Tryz.τ203 : Tryz.τ 203 = some ⟨.func,1,8,[.nilFunc]⟩ := rfl
@[simp] theorem Tryz.τ204 : Tryz.τ 204 = some ⟨.func,1,8,[.nilFunc]⟩ := rfl
@[simp] theorem Tryz.τ205 : Tryz.τ 205 = some ⟨.slice 207,1,24,[nZ]⟩ := rfl
@[simp] theorem Tryz.τ206 : Tryz.τ 206 = some ⟨.struct [(0,3),(1,3),(2,9),(3,205)],4,56,[iZ,iZ,sZ,nZ]⟩ := rfl
@[simp] theorem Tryz.τ207 : Tryz.τ 207 = some ⟨.struct [(0,3),(1,3),(2,9),(3,205)],4,56,[iZ,iZ,sZ,nZ]⟩ := rfl
@[simp] theorem Tryz.τ208 : Tryz.τ 208 = some ⟨.func,1,8,[.nilFunc]⟩ := rfl
@[simp] theorem Tryz.τ209 : Tryz.τ 209 = some ⟨.func,1,8,[.nilFunc]⟩ := rfl
@[simp] theorem Tryz.τ210 : Tryz.τ 210 = some ⟨.func,1,8,[.nilFunc]⟩ := rfl
@[simp] theorem Tryz.τ211 : Tryz.τ 211 = some ⟨.func,1,8,[.nilFunc]⟩ := rfl
@[simp] theorem Tryz.τ212 : Tryz.τ 212 = some ⟨.func,1,8,[.nilFunc]⟩ := rfl
@[simp] theorem Tryz.τ213 : Tryz.τ 213 = some ⟨.func,1,8,[.nilFunc]⟩ := rfl
@[simp] theorem Tryz.τ214 : Tryz.τ 214 = some ⟨.func,1,8,[.nilFunc]⟩ := rfl
@[simp] theorem Tryz.τ215 : Tryz.τ 215 = some ⟨.func,1,8,[.nilFunc]⟩ := rfl
@[simp] theorem Tryz.τ216 : Tryz.τ 216 = some ⟨.func,1,8,[.nilFunc]⟩ := rfl
@[simp] theorem Tryz.τ217 : Tryz.τ 217 = some ⟨.func,1,8,[.nilFunc]⟩ := rfl
@[simp] theorem Tryz.τ218 : Tryz.τ 218 = some ⟨.func,1,8,[.nilFunc]⟩ := rfl
@[simp] theorem Tryz.τ219 : Tryz.τ 219 = some ⟨.func,1,8,[.nilFunc]⟩ := rfl
@[simp] theorem Tryz.τ220 : Tryz.τ 220 = some ⟨.func,1,8,[.nilFunc]⟩ := rfl
@[simp] theorem Tryz.τ221 : Tryz.τ 221 = some ⟨.func,1,8,[.nilFunc]⟩ := rfl
@[simp] theorem Tryz.τ222 : Tryz.τ 222 = some ⟨.slice 234,1,24,[nZ]⟩ := rfl
@[simp] theorem Tryz.τ223 : Tryz.τ 223 = some ⟨.struct [(0,222),(1,26)],2,32,[nZ,.nilFunc]⟩ := rfl
@[simp] theorem Tryz.τ224 : Tryz.τ 224 = some ⟨.struct [(0,222),(1,26)],2,32,[nZ,.nilFunc]⟩ := rfl
@[simp] theorem Tryz.τ226 : Tryz.τ 226 = some ⟨.func,1,8,[.nilFunc]⟩ := rfl
@[simp] theorem Tryz.τ227 : Tryz.τ 227 = some ⟨.ptr 65,1,8,[.pointer none]⟩ := rfl
@[simp] theorem Tryz.τ228 : Tryz.τ 228 = some ⟨.ptr 3,1,8,[.pointer none]⟩ := rfl
@[simp] theorem Tryz.τ229 : Tryz.τ 229 = some ⟨.func,1,8,[.nilFunc]⟩ := rfl
@[simp] theorem Tryz.τ230 : Tryz.τ 230 = some ⟨.func,1,8,[.nilFunc]⟩ := rfl
@[simp] theorem Tryz.τ231 : Tryz.τ 231 = some ⟨.struct [(0,3),(1,3)],2,16,[iZ,iZ]⟩ := rfl
@[simp] theorem Tryz.τ232 : Tryz.τ 232 = some ⟨.struct [(0,3),(1,3)],2,16,[iZ,iZ]⟩ := rfl
@[simp] theorem Tryz.τ233 : Tryz.τ 233 = some ⟨.struct [(0,228),(1,232)],3,24,[.pointer none,iZ,iZ]⟩ := rfl
@[simp] theorem Tryz.τ234 : Tryz.τ 234 = some ⟨.struct [(0,228),(1,232)],3,24,[.pointer none,iZ,iZ]⟩ := rfl
@[simp] theorem Tryz.τ235 : Tryz.τ 235 = some ⟨.func,1,8,[.nilFunc]⟩ := rfl
@[simp] theorem Tryz.τ236 : Tryz.τ 236 = some ⟨.func,1,8,[.nilFunc]⟩ := rfl
@[simp] theorem Tryz.τ237 : Tryz.τ 237 = some ⟨.func,1,8,[.nilFunc]⟩ := rfl
@[simp] theorem Tryz.τ238 : Tryz.τ 238 = some ⟨.func,1,8,[.nilFunc]⟩ := rfl
@[simp] theorem Tryz.τ239 : Tryz.τ 239 = some ⟨.func,1,8,[.nilFunc]⟩ := rfl
@[simp] theorem Tryz.τ240 : Tryz.τ 240 = some ⟨.func,1,8,[.nilFunc]⟩ := rfl
@[simp] theorem Tryz.τ241 : Tryz.τ 241 = some ⟨.func,1,8,[.nilFunc]⟩ := rfl
@[simp] theorem Tryz.τ242 : Tryz.τ 242 = some ⟨.func,1,8,[.nilFunc]⟩ := rfl
@[simp] theorem Tryz.τ243 : Tryz.τ 243 = some ⟨.func,1,8,[.nilFunc]⟩ := rfl
@[simp] theorem Tryz.τ244 : Tryz.τ 244 = some ⟨.func,1,8,[.nilFunc]⟩ := rfl
@[simp] theorem Tryz.τ245 : Tryz.τ 245 = some ⟨.func,1,8,[.nilFunc]⟩ := rfl
@[simp] theorem Tryz.τ246 : Tryz.τ 246 = some ⟨.func,1,8,[.nilFunc]⟩ := rfl
@[simp] theorem Tryz.τ247 : Tryz.τ 247 = some ⟨.func,1,8,[.nilFunc]⟩ := rfl
@[simp] theorem Tryz.τ248 : Tryz.τ 248 = some ⟨.func,1,8,[.nilFunc]⟩ := rfl
@[simp] theorem Tryz.τ249 : Tryz.τ 249 = some ⟨.func,1,8,[.nilFunc]⟩ := rfl
@[simp] theorem Tryz.τ250 : Tryz.τ 250 = some ⟨.struct [(0,249)],1,8,[.nilFunc]⟩ := rfl
@[simp] theorem Tryz.τ251 : Tryz.τ 251 = some ⟨.struct [(0,249)],1,8,[.nilFunc]⟩ := rfl
@[simp] theorem Tryz.τ252 : Tryz.τ 252 = some ⟨.ptr 297,1,8,[.pointer none]⟩ := rfl
@[simp] theorem Tryz.τ253 : Tryz.τ 253 = some ⟨.func,1,8,[.nilFunc]⟩ := rfl
@[simp] theorem Tryz.τ254 : Tryz.τ 254 = some ⟨.func,1,8,[.nilFunc]⟩ := rfl
@[simp] theorem Tryz.τ255 : Tryz.τ 255 = some ⟨.func,1,8,[.nilFunc]⟩ := rfl
@[simp] theorem Tryz.τ256 : Tryz.τ 256 = some ⟨.func,1,8,[.nilFunc]⟩ := rfl
@[simp] theorem Tryz.τ257 : Tryz.τ 257 = some ⟨.func,1,8,[.nilFunc]⟩ := rfl
@[simp] theorem Tryz.τ258 : Tryz.τ 258 = some ⟨.func,1,8,[.nilFunc]⟩ := rfl
@[simp] theorem Tryz.τ259 : Tryz.τ 259 = some ⟨.func,1,8,[.nilFunc]⟩ := rfl
@[simp] theorem Tryz.τ260 : Tryz.τ 260 = some ⟨.func,1,8,[.nilFunc]⟩ := rfl
@[simp] theorem Tryz.τ261 : Tryz.τ 261 = some ⟨.func,1,8,[.nilFunc]⟩ := rfl
@[simp] theorem Tryz.τ262 : Tryz.τ 262 = some ⟨.func,1,8,[.nilFunc]⟩ := rfl
@[simp] theorem Tryz.τ263 : Tryz.τ 263 = some ⟨.func,1,8,[.nilFunc]⟩ := rfl
@[simp] theorem Tryz.τ264 : Tryz.τ 264 = some ⟨.func,1,8,[.nilFunc]⟩ := rfl
@[simp] theorem Tryz.τ265 : Tryz.τ 265 = some ⟨.ptr 41,1,8,[.pointer none]⟩ := rfl
@[simp] theorem Tryz.τ266 : Tryz.τ 266 = some ⟨.ptr 43,1,8,[.pointer none]⟩ := rfl
@[simp] theorem Tryz.τ267 : Tryz.τ 267 = some ⟨.ptr 45,1,8,[.pointer none]⟩ := rfl
@[simp] theorem Tryz.τ268 : Tryz.τ 268 = some ⟨.ptr 47,1,8,[.pointer none]⟩ := rfl
@[simp] theorem Tryz.τ269 : Tryz.τ 269 = some ⟨.ptr 49,1,8,[.pointer none]⟩ := rfl
@[simp] theorem Tryz.τ270 : Tryz.τ 270 = some ⟨.ptr 51,1,8,[.pointer none]⟩ := rfl
@[simp] theorem Tryz.τ271 : Tryz.τ 271 = some ⟨.ptr 53,1,8,[.pointer none]⟩ := rfl
@[simp] theorem Tryz.τ272 : Tryz.τ 272 = some ⟨.ptr 55,1,8,[.pointer none]⟩ := rfl
@[simp] theorem Tryz.τ273 : Tryz.τ 273 = some ⟨.ptr 57,1,8,[.pointer none]⟩ := rfl
@[simp] theorem Tryz.τ274 : Tryz.τ 274 = some ⟨.ptr 59,1,8,[.pointer none]⟩ := rfl
@[simp] theorem Tryz.τ275 : Tryz.τ 275 = some ⟨.slice 74,1,24,[nZ]⟩ := rfl
@[simp] theorem Tryz.τ276 : Tryz.τ 276 = some ⟨.func,1,8,[.nilFunc]⟩ := rfl
@[simp] theorem Tryz.τ277 : Tryz.τ 277 = some ⟨.int .u32,1,4,[wZ]⟩ := rfl
@[simp] theorem Tryz.τ278 : Tryz.τ 278 = some ⟨.array 8 277,8,32,[wZ,wZ,wZ,wZ,wZ,wZ,wZ,wZ]⟩ := rfl
@[simp] theorem Tryz.τ279 : Tryz.τ 279 = some ⟨.int .u64,1,8,[.int .u64 0]⟩ := rfl
@[simp] theorem Tryz.τ280 : Tryz.τ 280 = some ⟨.func,1,8,[.nilFunc]⟩ := rfl
@[simp] theorem Tryz.τ281 : Tryz.τ 281 = some ⟨.ptr 278,1,8,[.pointer none]⟩ := rfl
@[simp] theorem Tryz.τ282 : Tryz.τ 282 = some ⟨.func,1,8,[.nilFunc]⟩ := rfl
@[simp] theorem Tryz.τ283 : Tryz.τ 283 = some ⟨.func,1,8,[.nilFunc]⟩ := rfl
@[simp] theorem Tryz.τ284 : Tryz.τ 284 = some ⟨.func,1,8,[.nilFunc]⟩ := rfl
@[simp] theorem Tryz.τ285 : Tryz.τ 285 = some ⟨.func,1,8,[.nilFunc]⟩ := rfl
@[simp] theorem Tryz.τ286 : Tryz.τ 286 = some ⟨.func,1,8,[.nilFunc]⟩ := rfl
@[simp] theorem Tryz.τ287 : Tryz.τ 287 = some ⟨.int .i64,1,8,[iZ]⟩ := rfl
@[simp] theorem Tryz.τ289 : Tryz.τ 289 = some ⟨.func,1,8,[.nilFunc]⟩ := rfl
@[simp] theorem Tryz.τ290 : Tryz.τ 290 = some ⟨.func,1,8,[.nilFunc]⟩ := rfl
@[simp] theorem Tryz.τ291 : Tryz.τ 291 = some ⟨.func,1,8,[.nilFunc]⟩ := rfl
@[simp] theorem Tryz.τ292 : Tryz.τ 292 = some ⟨.func,1,8,[.nilFunc]⟩ := rfl
@[simp] theorem Tryz.τ293 : Tryz.τ 293 = some ⟨.func,1,8,[.nilFunc]⟩ := rfl
@[simp] theorem Tryz.τ294 : Tryz.τ 294 = some ⟨.func,1,8,[.nilFunc]⟩ := rfl
@[simp] theorem Tryz.τ295 : Tryz.τ 295 = some ⟨.func,1,8,[.nilFunc]⟩ := rfl
@[simp] theorem Tryz.τ296 : Tryz.τ 296 = some ⟨.array 4 251,4,32,[.nilFunc,.nilFunc,.nilFunc,.nilFunc]⟩ := rfl
@[simp] theorem Tryz.τ297 : Tryz.τ 297 = some ⟨.array 4 251,4,32,[.nilFunc,.nilFunc,.nilFunc,.nilFunc]⟩ := rfl
@[simp] theorem Tryz.τ298 : Tryz.τ 298 = some ⟨.func,1,8,[.nilFunc]⟩ := rfl
@[simp] theorem Tryz.τ299 : Tryz.τ 299 = some ⟨.func,1,8,[.nilFunc]⟩ := rfl
@[simp] theorem Tryz.τ300 : Tryz.τ 300 = some ⟨.func,1,8,[.nilFunc]⟩ := rfl
@[simp] theorem Tryz.τ301 : Tryz.τ 301 = some ⟨.func,1,8,[.nilFunc]⟩ := rfl
@[simp] theorem Tryz.τ302 : Tryz.τ 302 = some ⟨.func,1,8,[.nilFunc]⟩ := rfl
@[simp] theorem Tryz.τ303 : Tryz.τ 303 = some ⟨.func,1,8,[.nilFunc]⟩ := rfl
@[simp] theorem Tryz.τ304 : Tryz.τ 304 = some ⟨.func,1,8,[.nilFunc]⟩ := rfl
@[simp] theorem Tryz.τ305 : Tryz.τ 305 = some ⟨.func,1,8,[.nilFunc]⟩ := rfl
@[simp] theorem Tryz.τ306 : Tryz.τ 306 = some ⟨.func,1,8,[.nilFunc]⟩ := rfl
@[simp] theorem Tryz.τ307 : Tryz.τ 307 = some ⟨.func,1,8,[.nilFunc]⟩ := rfl
@[simp] theorem Tryz.τ308 : Tryz.τ 308 = some ⟨.func,1,8,[.nilFunc]⟩ := rfl
@[simp] theorem Tryz.τ309 : Tryz.τ 309 = some ⟨.func,1,8,[.nilFunc]⟩ := rfl
@[simp] theorem Tryz.τ310 : Tryz.τ 310 = some ⟨.func,1,8,[.nilFunc]⟩ := rfl
@[simp] theorem Tryz.τ311 : Tryz.τ 311 = some ⟨.func,1,8,[.nilFunc]⟩ := rfl
@[simp] theorem Tryz.τ312 : Tryz.τ 312 = some ⟨.array 16 277,16,64,[wZ,wZ,wZ,wZ,wZ,wZ,wZ,wZ,wZ,wZ,wZ,wZ,wZ,wZ,wZ,wZ]⟩ := rfl
@[simp] theorem Tryz.τ313 : Tryz.τ 313 = some ⟨.array 16 277,16,64,[wZ,wZ,wZ,wZ,wZ,wZ,wZ,wZ,wZ,wZ,wZ,wZ,wZ,wZ,wZ,wZ]⟩ := rfl
@[simp] theorem Tryz.τ314 : Tryz.τ 314 = some ⟨.slice 277,1,24,[nZ]⟩ := rfl
@[simp] theorem Tryz.τ315 : Tryz.τ 315 = some ⟨.func,1,8,[.nilFunc]⟩ := rfl
@[simp] theorem Tryz.τ316 : Tryz.τ 316 = some ⟨.array 16 5,16,16,[uZ,uZ,uZ,uZ,uZ,uZ,uZ,uZ,uZ,uZ,uZ,uZ,uZ,uZ,uZ,uZ]⟩ := rfl
@[simp] theorem Tryz.τ317 : Tryz.τ 317 = some ⟨.array 10 316,160,160,[uZ,uZ,uZ,uZ,uZ,uZ,uZ,uZ,uZ,uZ,uZ,uZ,uZ,uZ,uZ,uZ,uZ,uZ,uZ,uZ,uZ,uZ,uZ,uZ,uZ,uZ,uZ,uZ,uZ,uZ,uZ,uZ,uZ,uZ,uZ,uZ,uZ,uZ,uZ,uZ,uZ,uZ,uZ,uZ,uZ,uZ,uZ,uZ,uZ,uZ,uZ,uZ,uZ,uZ,uZ,uZ,uZ,uZ,uZ,uZ,uZ,uZ,uZ,uZ,uZ,uZ,uZ,uZ,uZ,uZ,uZ,uZ,uZ,uZ,uZ,uZ,uZ,uZ,uZ,uZ,uZ,uZ,uZ,uZ,uZ,uZ,uZ,uZ,uZ,uZ,uZ,uZ,uZ,uZ,uZ,uZ,uZ,uZ,uZ,uZ,uZ,uZ,uZ,uZ,uZ,uZ,uZ,uZ,uZ,uZ,uZ,uZ,uZ,uZ,uZ,uZ,uZ,uZ,uZ,uZ,uZ,uZ,uZ,uZ,uZ,uZ,uZ,uZ,uZ,uZ,uZ,uZ,uZ,uZ,uZ,uZ,uZ,uZ,uZ,uZ,uZ,uZ,uZ,uZ,uZ,uZ,uZ,uZ,uZ,uZ,uZ,uZ,uZ,uZ,uZ,uZ,uZ,uZ,uZ,uZ]⟩ := rfl
@[simp] theorem Tryz.τ318 : Tryz.τ 318 = some ⟨.func,1,8,[.nilFunc]⟩ := rfl
@[simp] theorem Tryz.τ319 : Tryz.τ 319 = some ⟨.func,1,8,[.nilFunc]⟩ := rfl
@[simp] theorem Tryz.τ320 : Tryz.τ 320 = some ⟨.func,1,8,[.nilFunc]⟩ := rfl
@[simp] theorem Tryz.τ321 : Tryz.τ 321 = some ⟨.array 16 3,16,128,[iZ,iZ,iZ,iZ,iZ,iZ,iZ,iZ,iZ,iZ,iZ,iZ,iZ,iZ,iZ,iZ]⟩ := rfl
@[simp] theorem Tryz.τ322 : Tryz.τ 322 = some ⟨.array 10 321,160,1280,[iZ,iZ,iZ,iZ,iZ,iZ,iZ,iZ,iZ,iZ,iZ,iZ,iZ,iZ,iZ,iZ,iZ,iZ,iZ,iZ,iZ,iZ,iZ,iZ,iZ,iZ,iZ,iZ,iZ,iZ,iZ,iZ,iZ,iZ,iZ,iZ,iZ,iZ,iZ,iZ,iZ,iZ,iZ,iZ,iZ,iZ,iZ,iZ,iZ,iZ,iZ,iZ,iZ,iZ,iZ,iZ,iZ,iZ,iZ,iZ,iZ,iZ,iZ,iZ,iZ,iZ,iZ,iZ,iZ,iZ,iZ,iZ,iZ,iZ,iZ,iZ,iZ,iZ,iZ,iZ,iZ,iZ,iZ,iZ,iZ,iZ,iZ,iZ,iZ,iZ,iZ,iZ,iZ,iZ,iZ,iZ,iZ,iZ,iZ,iZ,iZ,iZ,iZ,iZ,iZ,iZ,iZ,iZ,iZ,iZ,iZ,iZ,iZ,iZ,iZ,iZ,iZ,iZ,iZ,iZ,iZ,iZ,iZ,iZ,iZ,iZ,iZ,iZ,iZ,iZ,iZ,iZ,iZ,iZ,iZ,iZ,iZ,iZ,iZ,iZ,iZ,iZ,iZ,iZ,iZ,iZ,iZ,iZ,iZ,iZ,iZ,iZ,iZ,iZ,iZ,iZ,iZ,iZ,iZ,iZ]⟩ := rfl
@[simp] theorem Tryz.τ323 : Tryz.τ 323 = some ⟨.func,1,8,[.nilFunc]⟩ := rfl
@[simp] theorem Tryz.τ324 : Tryz.τ 324 = some ⟨.array 4 3,4,32,[iZ,iZ,iZ,iZ]⟩ := rfl
@[simp] theorem Tryz.τ326 : Tryz.τ 326 = some ⟨.func,1,8,[.nilFunc]⟩ := rfl
@[simp] theorem Tryz.τ327 : Tryz.τ 327 = some ⟨.int .u64,1,8,[.int .u64 0]⟩ := rfl
@[simp] theorem Tryz.τ328 : Tryz.τ 328 = some ⟨.func,1,8,[.nilFunc]⟩ := rfl
@[simp] theorem Tryz.τ329 : Tryz.τ 329 = some ⟨.func,1,8,[.nilFunc]⟩ := rfl
@[simp] theorem Tryz.τ330 : Tryz.τ 330 = some ⟨.func,1,8,[.nilFunc]⟩ := rfl
@[simp] theorem Tryz.τ331 : Tryz.τ 331 = some ⟨.func,1,8,[.nilFunc]⟩ := rfl
@[simp] theorem Tryz.τ332 : Tryz.τ 332 = some ⟨.array 4 4,4,4,[bZ,bZ,bZ,bZ]⟩ := rfl
@[simp] theorem Tryz.τ333 : Tryz.τ 333 = some ⟨.func,1,8,[.nilFunc]⟩ := rfl
@[simp] theorem Tryz.τ334 : Tryz.τ 334 = some ⟨.func,1,8,[.nilFunc]⟩ := rfl
@[simp] theorem Tryz.τ335 : Tryz.τ 335 = some ⟨.func,1,8,[.nilFunc]⟩ := rfl
@[simp] theorem Tryz.τ336 : Tryz.τ 336 = some ⟨.func,1,8,[.nilFunc]⟩ := rfl
@[simp] theorem Tryz.τ337 : Tryz.τ 337 = some ⟨.func,1,8,[.nilFunc]⟩ := rfl
@[simp] theorem Tryz.τ338 : Tryz.τ 338 = some ⟨.func,1,8,[.nilFunc]⟩ := rfl
@[simp] theorem Tryz.τ339 : Tryz.τ 339 = some ⟨.ptr 313,1,8,[.pointer none]⟩ := rfl
@[simp] theorem Tryz.τ340 : Tryz.τ 340 = some ⟨.func,1,8,[.nilFunc]⟩ := rfl
@[simp] theorem Tryz.τ341 : Tryz.τ 341 = some ⟨.ptr 327,1,8,[.pointer none]⟩ := rfl
@[simp] theorem Tryz.τ343 : Tryz.τ 343 = some ⟨.func,1,8,[.nilFunc]⟩ := rfl
@[simp] theorem Tryz.τ344 : Tryz.τ 344 = some ⟨.func,1,8,[.nilFunc]⟩ := rfl
@[simp] theorem Tryz.τ345 : Tryz.τ 345 = some ⟨.func,1,8,[.nilFunc]⟩ := rfl
@[simp] theorem Tryz.τ346 : Tryz.τ 346 = some ⟨.func,1,8,[.nilFunc]⟩ := rfl
@[simp] theorem Tryz.τ347 : Tryz.τ 347 = some ⟨.struct [(0,17),(1,17),(2,17),(3,9)],4,40,[.pointer none,.pointer none,.pointer none,sZ]⟩ := rfl
@[simp] theorem Tryz.τ348 : Tryz.τ 348 = some ⟨.struct [(0,17),(1,17),(2,17),(3,9)],4,40,[.pointer none,.pointer none,.pointer none,sZ]⟩ := rfl
@[simp] theorem Tryz.τ349 : Tryz.τ 349 = some ⟨.array 0 16,0,0,[]⟩ := rfl
@[simp] theorem Tryz.τ350 : Tryz.τ 350 = some ⟨.struct [(0,349)],0,0,[]⟩ := rfl
@[simp] theorem Tryz.τ351 : Tryz.τ 351 = some ⟨.struct [(0,349)],0,0,[]⟩ := rfl
@[simp] theorem Tryz.τ352 : Tryz.τ 352 = some ⟨.func,1,8,[.nilFunc]⟩ := rfl
@[simp] theorem Tryz.τ353 : Tryz.τ 353 = some ⟨.int .u8,1,1,[uZ]⟩ := rfl
@[simp] theorem Tryz.τ354 : Tryz.τ 354 = some ⟨.int .u8,1,1,[uZ]⟩ := rfl
@[simp] theorem Tryz.τ355 : Tryz.τ 355 = some ⟨.func,1,8,[.nilFunc]⟩ := rfl
@[simp] theorem Tryz.τ356 : Tryz.τ 356 = some ⟨.ptr 5,1,8,[.pointer none]⟩ := rfl
@[simp] theorem Tryz.τ357 : Tryz.τ 357 = some ⟨.int .i32,1,4,[.int .i32 0]⟩ := rfl
@[simp] theorem Tryz.τ358 : Tryz.τ 358 = some ⟨.int .i32,1,4,[.int .i32 0]⟩ := rfl
@[simp] theorem Tryz.τ359 : Tryz.τ 359 = some ⟨.struct [(0,12),(1,12),(2,277),(3,353),(4,5),(5,5),(6,354),(7,355),(8,356),(9,357),(10,358)],11,48,[.int .u64 0,.int .u64 0,wZ,uZ,uZ,uZ,uZ,.nilFunc,.pointer none,.int .i32 0,.int .i32 0]⟩ := rfl
@[simp] theorem Tryz.τ360 : Tryz.τ 360 = some ⟨.struct [(0,12),(1,12),(2,277),(3,353),(4,5),(5,5),(6,354),(7,355),(8,356),(9,357),(10,358)],11,48,[.int .u64 0,.int .u64 0,wZ,uZ,uZ,uZ,uZ,.nilFunc,.pointer none,.int .i32 0,.int .i32 0]⟩ := rfl
set_option maxRecDepth 100000 in
/-- A type's entry is right, by looking. -/
theorem tyS {P : Program} {T : Nat} {e : TE} (i : TypeInfo) {d : TypeDesc} (hu : P.underlying T = some d) (hk : e.k.ok d := by first | rfl | exact ⟨_, rfl, rfl⟩ | exact ⟨_, _, _, rfl⟩ | exact ⟨_, rfl⟩) (hi : P.info? T = some i := by kernel_rfl)
  (h : ∃ z, i.size = e.size ∧ i.bytes = e.bytes ∧ i.zero = some z ∧ z.cells.toList = e.zero ∧ e.zero.length = e.size ∧ e.zero.all (·.oneCell') = true := by exact ⟨_, rfl, rfl, rfl, rfl, rfl, rfl⟩) : TyOk P T e := ⟨⟨i, h.choose, hi, h.choose_spec⟩, ⟨d, hu, hk⟩⟩
set_option maxRecDepth 20000 in
theorem Tryz.tab : TabOk Tryz.prog Tryz.τ := by
 intro T e h
 have hL : AllOk Tryz.prog 0 Tryz.tL := by
  unfold Tryz.tL
  refine ⟨tyS Tryz.t1 Tryz.underlying1, ?_⟩
  refine ⟨tyS Tryz.t2 Tryz.underlying2, ?_⟩
  refine ⟨tyS Tryz.t3 Tryz.underlying3, ?_⟩
  refine ⟨tyS Tryz.t4 Tryz.underlying4, ?_⟩
  refine ⟨tyS Tryz.t5 Tryz.underlying5, ?_⟩
  refine ⟨tyS Tryz.t6 Tryz.underlying6, ?_⟩
  refine ⟨tyS Tryz.t7 Tryz.underlying7, ?_⟩
  refine ⟨tyS Tryz.t8 Tryz.underlying8, ?_⟩
  refine ⟨tyS Tryz.t9 Tryz.underlying9, ?_⟩
  refine ⟨tyS Tryz.t10 Tryz.underlying10, ?_⟩
  refine ⟨tyS Tryz.t11 Tryz.underlying11, ?_⟩
  refine ⟨tyS Tryz.t12 Tryz.underlying12, ?_⟩
  refine ⟨tyS Tryz.t13 Tryz.underlying13, ?_⟩
  refine ⟨tyS Tryz.t14 Tryz.underlying14, ?_⟩
  refine ⟨tyS Tryz.t15 Tryz.underlying15, ?_⟩
  refine ⟨tyS Tryz.t16 Tryz.underlying16, ?_⟩
  refine ⟨tyS Tryz.t17 Tryz.underlying17, ?_⟩
  refine ⟨tyS Tryz.t18 Tryz.underlying18, ?_⟩
  refine ⟨tyS Tryz.t19 Tryz.underlying19, ?_⟩
  refine ⟨tyS Tryz.t20 Tryz.underlying20, ?_⟩
  refine ⟨tyS Tryz.t21 Tryz.underlying21, ?_⟩
  refine ⟨tyS Tryz.t22 Tryz.underlying22, ?_⟩
  refine ⟨tyS Tryz.t23 Tryz.underlying23, ?_⟩
  refine ⟨tyS Tryz.t24 Tryz.underlying24, ?_⟩
  refine ⟨tyS Tryz.t25 Tryz.underlying25, ?_⟩
  refine ⟨tyS Tryz.t26 Tryz.underlying26, ?_⟩
  refine ⟨tyS Tryz.t27 Tryz.underlying27, ?_⟩
  refine ⟨tyS Tryz.t28 Tryz.underlying28, ?_⟩
  refine ⟨tyS Tryz.t29 Tryz.underlying29, ?_⟩
  refine ⟨tyS Tryz.t31 Tryz.underlying31, ?_⟩
  refine ⟨tyS Tryz.t32 Tryz.underlying32, ?_⟩
  refine ⟨tyS Tryz.t33 Tryz.underlying33, ?_⟩
  refine ⟨tyS Tryz.t34 Tryz.underlying34, ?_⟩
  refine ⟨tyS Tryz.t35 Tryz.underlying35, ?_⟩
  refine ⟨tyS Tryz.t36 Tryz.underlying36, ?_⟩
  refine ⟨tyS Tryz.t37 Tryz.underlying37, ?_⟩
  refine ⟨tyS Tryz.t38 Tryz.underlying38, ?_⟩
  refine ⟨tyS Tryz.t39 Tryz.underlying39, ?_⟩
  refine ⟨tyS Tryz.t40 Tryz.underlying40, ?_⟩
  refine ⟨tyS Tryz.t41 Tryz.underlying41, ?_⟩
  refine ⟨tyS Tryz.t42 Tryz.underlying42, ?_⟩
  refine ⟨tyS Tryz.t43 Tryz.underlying43, ?_⟩
  refine ⟨tyS Tryz.t44 Tryz.underlying44, ?_⟩
  refine ⟨tyS Tryz.t45 Tryz.underlying45, ?_⟩
  refine ⟨tyS Tryz.t46 Tryz.underlying46, ?_⟩
  refine ⟨tyS Tryz.t47 Tryz.underlying47, ?_⟩
  refine ⟨tyS Tryz.t48 Tryz.underlying48, ?_⟩
  refine ⟨tyS Tryz.t49 Tryz.underlying49, ?_⟩
  refine ⟨tyS Tryz.t50 Tryz.underlying50, ?_⟩
  refine ⟨tyS Tryz.t51 Tryz.underlying51, ?_⟩
  refine ⟨tyS Tryz.t52 Tryz.underlying52, ?_⟩
  refine ⟨tyS Tryz.t53 Tryz.underlying53, ?_⟩
  refine ⟨tyS Tryz.t54 Tryz.underlying54, ?_⟩
  refine ⟨tyS Tryz.t55 Tryz.underlying55, ?_⟩
  refine ⟨tyS Tryz.t56 Tryz.underlying56, ?_⟩
  refine ⟨tyS Tryz.t57 Tryz.underlying57, ?_⟩
  refine ⟨tyS Tryz.t58 Tryz.underlying58, ?_⟩
  refine ⟨tyS Tryz.t59 Tryz.underlying59, ?_⟩
  refine ⟨tyS Tryz.t60 Tryz.underlying60, ?_⟩
  refine ⟨tyS Tryz.t61 Tryz.underlying61, ?_⟩
  refine ⟨tyS Tryz.t62 Tryz.underlying62, ?_⟩
  refine ⟨tyS Tryz.t63 Tryz.underlying63, ?_⟩
  refine ⟨tyS Tryz.t64 Tryz.underlying64, ?_⟩
  refine ⟨tyS Tryz.t65 Tryz.underlying65, ?_⟩
  refine ⟨tyS Tryz.t66 Tryz.underlying66, ?_⟩
  refine ⟨tyS Tryz.t67 Tryz.underlying67, ?_⟩
  refine ⟨tyS Tryz.t68 Tryz.underlying68, ?_⟩
  refine ⟨tyS Tryz.t69 Tryz.underlying69, ?_⟩
  refine ⟨tyS Tryz.t70 Tryz.underlying70, ?_⟩
  refine ⟨tyS Tryz.t72 Tryz.underlying72, ?_⟩
  refine ⟨tyS Tryz.t73 Tryz.underlying73, ?_⟩
  refine ⟨tyS Tryz.t74 Tryz.underlying74, ?_⟩
  refine ⟨tyS Tryz.t75 Tryz.underlying75, ?_⟩
  refine ⟨tyS Tryz.t76 Tryz.underlying76, ?_⟩
  refine ⟨tyS Tryz.t77 Tryz.underlying77, ?_⟩
  refine ⟨tyS Tryz.t78 Tryz.underlying78, ?_⟩
  refine ⟨tyS Tryz.t80 Tryz.underlying80, ?_⟩
  refine ⟨tyS Tryz.t81 Tryz.underlying81, ?_⟩
  refine ⟨tyS Tryz.t82 Tryz.underlying82, ?_⟩
  refine ⟨tyS Tryz.t83 Tryz.underlying83, ?_⟩
  refine ⟨tyS Tryz.t84 Tryz.underlying84, ?_⟩
  refine ⟨tyS Tryz.t85 Tryz.underlying85, ?_⟩
  refine ⟨tyS Tryz.t86 Tryz.underlying86, ?_⟩
  refine ⟨tyS Tryz.t87 Tryz.underlying87, ?_⟩
  refine ⟨tyS Tryz.t88 Tryz.underlying88, ?_⟩
  refine ⟨tyS Tryz.t89 Tryz.underlying89, ?_⟩
  refine ⟨tyS Tryz.t90 Tryz.underlying90, ?_⟩
  refine ⟨tyS Tryz.t91 Tryz.underlying91, ?_⟩
  refine ⟨tyS Tryz.t92 Tryz.underlying92, ?_⟩
  refine ⟨tyS Tryz.t93 Tryz.underlying93, ?_⟩
  refine ⟨tyS Tryz.t95 Tryz.underlying95, ?_⟩
  refine ⟨tyS Tryz.t96 Tryz.underlying96, ?_⟩
  refine ⟨tyS Tryz.t97 Tryz.underlying97, ?_⟩
  refine ⟨tyS Tryz.t98 Tryz.underlying98, ?_⟩
  refine ⟨tyS Tryz.t99 Tryz.underlying99, ?_⟩
  refine ⟨tyS Tryz.t100 Tryz.underlying100, ?_⟩
  refine ⟨tyS Tryz.t101 Tryz.underlying101, ?_⟩
  refine ⟨tyS Tryz.t102 Tryz.underlying102, ?_⟩
  refine ⟨tyS Tryz.t103 Tryz.underlying103, ?_⟩
  refine ⟨tyS Tryz.t104 Tryz.underlying104, ?_⟩
  refine ⟨tyS Tryz.t105 Tryz.underlying105, ?_⟩
  refine ⟨tyS Tryz.t106 Tryz.underlying106, ?_⟩
  refine ⟨tyS Tryz.t107 Tryz.underlying107, ?_⟩
  refine ⟨tyS Tryz.t108 Tryz.underlying108, ?_⟩
  refine ⟨tyS Tryz.t109 Tryz.underlying109, ?_⟩
  refine ⟨tyS Tryz.t110 Tryz.underlying110, ?_⟩
  refine ⟨tyS Tryz.t111 Tryz.underlying111, ?_⟩
  refine ⟨tyS Tryz.t112 Tryz.underlying112, ?_⟩
  refine ⟨tyS Tryz.t113 Tryz.underlying113, ?_⟩
  refine ⟨tyS Tryz.t114 Tryz.underlying114, ?_⟩
  refine ⟨tyS Tryz.t115 Tryz.underlying115, ?_⟩
  refine ⟨tyS Tryz.t116 Tryz.underlying116, ?_⟩
  refine ⟨tyS Tryz.t117 Tryz.underlying117, ?_⟩
  refine ⟨tyS Tryz.t118 Tryz.underlying118, ?_⟩
  refine ⟨tyS Tryz.t119 Tryz.underlying119, ?_⟩
  refine ⟨tyS Tryz.t120 Tryz.underlying120, ?_⟩
  refine ⟨tyS Tryz.t121 Tryz.underlying121, ?_⟩
  refine ⟨tyS Tryz.t123 Tryz.underlying123, ?_⟩
  refine ⟨tyS Tryz.t124 Tryz.underlying124, ?_⟩
  refine ⟨tyS Tryz.t126 Tryz.underlying126, ?_⟩
  refine ⟨tyS Tryz.t127 Tryz.underlying127, ?_⟩
  refine ⟨tyS Tryz.t128 Tryz.underlying128, ?_⟩
  refine ⟨tyS Tryz.t130 Tryz.underlying130, ?_⟩
  refine ⟨tyS Tryz.t131 Tryz.underlying131, ?_⟩
  refine ⟨tyS Tryz.t133 Tryz.underlying133, ?_⟩
  refine ⟨tyS Tryz.t134 Tryz.underlying134, ?_⟩
  refine ⟨tyS Tryz.t135 Tryz.underlying135, ?_⟩
  refine ⟨tyS Tryz.t136 Tryz.underlying136, ?_⟩
  refine ⟨tyS Tryz.t137 Tryz.underlying137, ?_⟩
  refine ⟨tyS Tryz.t138 Tryz.underlying138, ?_⟩
  refine ⟨tyS Tryz.t139 Tryz.underlying139, ?_⟩
  refine ⟨tyS Tryz.t140 Tryz.underlying140, ?_⟩
  refine ⟨tyS Tryz.t141 Tryz.underlying141, ?_⟩
  refine ⟨tyS Tryz.t142 Tryz.underlying142, ?_⟩
  refine ⟨tyS Tryz.t143 Tryz.underlying143, ?_⟩
  refine ⟨tyS Tryz.t144 Tryz.underlying144, ?_⟩
  refine ⟨tyS Tryz.t145 Tryz.underlying145, ?_⟩
  refine ⟨tyS Tryz.t146 Tryz.underlying146, ?_⟩
  refine ⟨tyS Tryz.t147 Tryz.underlying147, ?_⟩
  refine ⟨tyS Tryz.t149 Tryz.underlying149, ?_⟩
  refine ⟨tyS Tryz.t150 Tryz.underlying150, ?_⟩
  refine ⟨tyS Tryz.t151 Tryz.underlying151, ?_⟩
  refine ⟨tyS Tryz.t152 Tryz.underlying152, ?_⟩
  refine ⟨tyS Tryz.t153 Tryz.underlying153, ?_⟩
  refine ⟨tyS Tryz.t154 Tryz.underlying154, ?_⟩
  refine ⟨tyS Tryz.t155 Tryz.underlying155, ?_⟩
  refine ⟨tyS Tryz.t156 Tryz.underlying156, ?_⟩
  refine ⟨tyS Tryz.t157 Tryz.underlying157, ?_⟩
  refine ⟨tyS Tryz.t158 Tryz.underlying158, ?_⟩
  refine ⟨tyS Tryz.t159 Tryz.underlying159, ?_⟩
  refine ⟨tyS Tryz.t160 Tryz.underlying160, ?_⟩
  refine ⟨tyS Tryz.t161 Tryz.underlying161, ?_⟩
  refine ⟨tyS Tryz.t162 Tryz.underlying162, ?_⟩
  refine ⟨tyS Tryz.t163 Tryz.underlying163, ?_⟩
  refine ⟨tyS Tryz.t164 Tryz.underlying164, ?_⟩
  refine ⟨tyS Tryz.t165 Tryz.underlying165, ?_⟩
  refine ⟨tyS Tryz.t166 Tryz.underlying166, ?_⟩
  refine ⟨tyS Tryz.t167 Tryz.underlying167, ?_⟩
  refine ⟨tyS Tryz.t168 Tryz.underlying168, ?_⟩
  refine ⟨tyS Tryz.t169 Tryz.underlying169, ?_⟩
  refine ⟨tyS Tryz.t170 Tryz.underlying170, ?_⟩
  refine ⟨tyS Tryz.t171 Tryz.underlying171, ?_⟩
  refine ⟨tyS Tryz.t172 Tryz.underlying172, ?_⟩
  refine ⟨tyS Tryz.t173 Tryz.underlying173, ?_⟩
  refine ⟨tyS Tryz.t174 Tryz.underlying174, ?_⟩
  refine ⟨tyS Tryz.t175 Tryz.underlying175, ?_⟩
  refine ⟨tyS Tryz.t176 Tryz.underlying176, ?_⟩
  refine ⟨tyS Tryz.t177 Tryz.underlying177, ?_⟩
  refine ⟨tyS Tryz.t179 Tryz.underlying179, ?_⟩
  refine ⟨tyS Tryz.t181 Tryz.underlying181, ?_⟩
  refine ⟨tyS Tryz.t182 Tryz.underlying182, ?_⟩
  refine ⟨tyS Tryz.t183 Tryz.underlying183, ?_⟩
  refine ⟨tyS Tryz.t184 Tryz.underlying184, ?_⟩
  refine ⟨tyS Tryz.t185 Tryz.underlying185, ?_⟩
  refine ⟨tyS Tryz.t186 Tryz.underlying186, ?_⟩
  refine ⟨tyS Tryz.t187 Tryz.underlying187, ?_⟩
  refine ⟨tyS Tryz.t188 Tryz.underlying188, ?_⟩
  refine ⟨tyS Tryz.t189 Tryz.underlying189, ?_⟩
  refine ⟨tyS Tryz.t190 Tryz.underlying190, ?_⟩
  refine ⟨tyS Tryz.t191 Tryz.underlying191, ?_⟩
  refine ⟨tyS Tryz.t192 Tryz.underlying192, ?_⟩
  refine ⟨tyS Tryz.t193 Tryz.underlying193, ?_⟩
  refine ⟨tyS Tryz.t194 Tryz.underlying194, ?_⟩
  refine ⟨tyS Tryz.t195 Tryz.underlying195, ?_⟩
  refine ⟨tyS Tryz.t196 Tryz.underlying196, ?_⟩
  refine ⟨tyS Tryz.t197 Tryz.underlying197, ?_⟩
  refine ⟨tyS Tryz.t198 Tryz.underlying198, ?_⟩
  refine ⟨tyS Tryz.t199 Tryz.underlying199, ?_⟩
  refine ⟨tyS Tryz.t200 Tryz.underlying200, ?_⟩
  refine ⟨tyS Tryz.t201 Tryz.underlying201, ?_⟩
  refine ⟨tyS Tryz.t202 Tryz.underlying202, ?_⟩
  refine ⟨tyS Tryz.t203 Tryz.underlying203, ?_⟩
  refine ⟨tyS Tryz.t204 Tryz.underlying204, ?_⟩
  refine ⟨tyS Tryz.t205 Tryz.underlying205, ?_⟩
  refine ⟨tyS Tryz.t206 Tryz.underlying206, ?_⟩
  refine ⟨tyS Tryz.t207 Tryz.underlying207, ?_⟩
  refine ⟨tyS Tryz.t208 Tryz.underlying208, ?_⟩
  refine ⟨tyS Tryz.t209 Tryz.underlying209, ?_⟩
  refine ⟨tyS Tryz.t210 Tryz.underlying210, ?_⟩
  refine ⟨tyS Tryz.t211 Tryz.underlying211, ?_⟩
  refine ⟨tyS Tryz.t212 Tryz.underlying212, ?_⟩
  refine ⟨tyS Tryz.t213 Tryz.underlying213, ?_⟩
  refine ⟨tyS Tryz.t214 Tryz.underlying214, ?_⟩
  refine ⟨tyS Tryz.t215 Tryz.underlying215, ?_⟩
  refine ⟨tyS Tryz.t216 Tryz.underlying216, ?_⟩
  refine ⟨tyS Tryz.t217 Tryz.underlying217, ?_⟩
  refine ⟨tyS Tryz.t218 Tryz.underlying218, ?_⟩
  refine ⟨tyS Tryz.t219 Tryz.underlying219, ?_⟩
  refine ⟨tyS Tryz.t220 Tryz.underlying220, ?_⟩
  refine ⟨tyS Tryz.t221 Tryz.underlying221, ?_⟩
  refine ⟨tyS Tryz.t222 Tryz.underlying222, ?_⟩
  refine ⟨tyS Tryz.t223 Tryz.underlying223, ?_⟩
  refine ⟨tyS Tryz.t224 Tryz.underlying224, ?_⟩
  refine ⟨tyS Tryz.t226 Tryz.underlying226, ?_⟩
  refine ⟨tyS Tryz.t227 Tryz.underlying227, ?_⟩
  refine ⟨tyS Tryz.t228 Tryz.underlying228, ?_⟩
  refine ⟨tyS Tryz.t229 Tryz.underlying229, ?_⟩
  refine ⟨tyS Tryz.t230 Tryz.underlying230, ?_⟩
  refine ⟨tyS Tryz.t231 Tryz.underlying231, ?_⟩
  refine ⟨tyS Tryz.t232 Tryz.underlying232, ?_⟩
  refine ⟨tyS Tryz.t233 Tryz.underlying233, ?_⟩
  refine ⟨tyS Tryz.t234 Tryz.underlying234, ?_⟩
  refine ⟨tyS Tryz.t235 Tryz.underlying235, ?_⟩
  refine ⟨tyS Tryz.t236 Tryz.underlying236, ?_⟩
  refine ⟨tyS Tryz.t237 Tryz.underlying237, ?_⟩
  refine ⟨tyS Tryz.t238 Tryz.underlying238, ?_⟩
  refine ⟨tyS Tryz.t239 Tryz.underlying239, ?_⟩
  refine ⟨tyS Tryz.t240 Tryz.underlying240, ?_⟩
  refine ⟨tyS Tryz.t241 Tryz.underlying241, ?_⟩
  refine ⟨tyS Tryz.t242 Tryz.underlying242, ?_⟩
  refine ⟨tyS Tryz.t243 Tryz.underlying243, ?_⟩
  refine ⟨tyS Tryz.t244 Tryz.underlying244, ?_⟩
  refine ⟨tyS Tryz.t245 Tryz.underlying245, ?_⟩
  refine ⟨tyS Tryz.t246 Tryz.underlying246, ?_⟩
  refine ⟨tyS Tryz.t247 Tryz.underlying247, ?_⟩
  refine ⟨tyS Tryz.t248 Tryz.underlying248, ?_⟩
  refine ⟨tyS Tryz.t249 Tryz.underlying249, ?_⟩
  refine ⟨tyS Tryz.t250 Tryz.underlying250, ?_⟩
  refine ⟨tyS Tryz.t251 Tryz.underlying251, ?_⟩
  refine ⟨tyS Tryz.t252 Tryz.underlying252, ?_⟩
  refine ⟨tyS Tryz.t253 Tryz.underlying253, ?_⟩
  refine ⟨tyS Tryz.t254 Tryz.underlying254, ?_⟩
  refine ⟨tyS Tryz.t255 Tryz.underlying255, ?_⟩
  refine ⟨tyS Tryz.t256 Tryz.underlying256, ?_⟩
  refine ⟨tyS Tryz.t257 Tryz.underlying257, ?_⟩
  refine ⟨tyS Tryz.t258 Tryz.underlying258, ?_⟩
  refine ⟨tyS Tryz.t259 Tryz.underlying259, ?_⟩
  refine ⟨tyS Tryz.t260 Tryz.underlying260, ?_⟩
  refine ⟨tyS Tryz.t261 Tryz.underlying261, ?_⟩
  refine ⟨tyS Tryz.t262 Tryz.underlying262, ?_⟩
  refine ⟨tyS Tryz.t263 Tryz.underlying263, ?_⟩
  refine ⟨tyS Tryz.t264 Tryz.underlying264, ?_⟩
  refine ⟨tyS Tryz.t265 Tryz.underlying265, ?_⟩
  refine ⟨tyS Tryz.t266 Tryz.underlying266, ?_⟩
  refine ⟨tyS Tryz.t267 Tryz.underlying267, ?_⟩
  refine ⟨tyS Tryz.t268 Tryz.underlying268, ?_⟩
  refine ⟨tyS Tryz.t269 Tryz.underlying269, ?_⟩
  refine ⟨tyS Tryz.t270 Tryz.underlying270, ?_⟩
  refine ⟨tyS Tryz.t271 Tryz.underlying271, ?_⟩
  refine ⟨tyS Tryz.t272 Tryz.underlying272, ?_⟩
  refine ⟨tyS Tryz.t273 Tryz.underlying273, ?_⟩
  refine ⟨tyS Tryz.t274 Tryz.underlying274, ?_⟩
  refine ⟨tyS Tryz.t275 Tryz.underlying275, ?_⟩
  refine ⟨tyS Tryz.t276 Tryz.underlying276, ?_⟩
  refine ⟨tyS Tryz.t277 Tryz.underlying277, ?_⟩
  refine ⟨tyS Tryz.t278 Tryz.underlying278, ?_⟩
  refine ⟨tyS Tryz.t279 Tryz.underlying279, ?_⟩
  refine ⟨tyS Tryz.t280 Tryz.underlying280, ?_⟩
  refine ⟨tyS Tryz.t281 Tryz.underlying281, ?_⟩
  refine ⟨tyS Tryz.t282 Tryz.underlying282, ?_⟩
  refine ⟨tyS Tryz.t283 Tryz.underlying283, ?_⟩
  refine ⟨tyS Tryz.t284 Tryz.underlying284, ?_⟩
  refine ⟨tyS Tryz.t285 Tryz.underlying285, ?_⟩
  refine ⟨tyS Tryz.t286 Tryz.underlying286, ?_⟩
  refine ⟨tyS Tryz.t287 Tryz.underlying287, ?_⟩
  refine ⟨tyS Tryz.t289 Tryz.underlying289, ?_⟩
  refine ⟨tyS Tryz.t290 Tryz.underlying290, ?_⟩
  refine ⟨tyS Tryz.t291 Tryz.underlying291, ?_⟩
  refine ⟨tyS Tryz.t292 Tryz.underlying292, ?_⟩
  refine ⟨tyS Tryz.t293 Tryz.underlying293, ?_⟩
  refine ⟨tyS Tryz.t294 Tryz.underlying294, ?_⟩
  refine ⟨tyS Tryz.t295 Tryz.underlying295, ?_⟩
  refine ⟨tyS Tryz.t296 Tryz.underlying296, ?_⟩
  refine ⟨tyS Tryz.t297 Tryz.underlying297, ?_⟩
  refine ⟨tyS Tryz.t298 Tryz.underlying298, ?_⟩
  refine ⟨tyS Tryz.t299 Tryz.underlying299, ?_⟩
  refine ⟨tyS Tryz.t300 Tryz.underlying300, ?_⟩
  refine ⟨tyS Tryz.t301 Tryz.underlying301, ?_⟩
  refine ⟨tyS Tryz.t302 Tryz.underlying302, ?_⟩
  refine ⟨tyS Tryz.t303 Tryz.underlying303, ?_⟩
  refine ⟨tyS Tryz.t304 Tryz.underlying304, ?_⟩
  refine ⟨tyS Tryz.t305 Tryz.underlying305, ?_⟩
  refine ⟨tyS Tryz.t306 Tryz.underlying306, ?_⟩
  refine ⟨tyS Tryz.t307 Tryz.underlying307, ?_⟩
  refine ⟨tyS Tryz.t308 Tryz.underlying308, ?_⟩
  refine ⟨tyS Tryz.t309 Tryz.underlying309, ?_⟩
  refine ⟨tyS Tryz.t310 Tryz.underlying310, ?_⟩
  refine ⟨tyS Tryz.t311 Tryz.underlying311, ?_⟩
  refine ⟨tyS Tryz.t312 Tryz.underlying312, ?_⟩
  refine ⟨tyS Tryz.t313 Tryz.underlying313, ?_⟩
  refine ⟨tyS Tryz.t314 Tryz.underlying314, ?_⟩
  refine ⟨tyS Tryz.t315 Tryz.underlying315, ?_⟩
  refine ⟨tyS Tryz.t316 Tryz.underlying316, ?_⟩
  refine ⟨tyS Tryz.t317 Tryz.underlying317, ?_⟩
  refine ⟨tyS Tryz.t318 Tryz.underlying318, ?_⟩
  refine ⟨tyS Tryz.t319 Tryz.underlying319, ?_⟩
  refine ⟨tyS Tryz.t320 Tryz.underlying320, ?_⟩
  refine ⟨tyS Tryz.t321 Tryz.underlying321, ?_⟩
  refine ⟨tyS Tryz.t322 Tryz.underlying322, ?_⟩
  refine ⟨tyS Tryz.t323 Tryz.underlying323, ?_⟩
  refine ⟨tyS Tryz.t324 Tryz.underlying324, ?_⟩
  refine ⟨tyS Tryz.t326 Tryz.underlying326, ?_⟩
  refine ⟨tyS Tryz.t327 Tryz.underlying327, ?_⟩
  refine ⟨tyS Tryz.t328 Tryz.underlying328, ?_⟩
  refine ⟨tyS Tryz.t329 Tryz.underlying329, ?_⟩
  refine ⟨tyS Tryz.t330 Tryz.underlying330, ?_⟩
  refine ⟨tyS Tryz.t331 Tryz.underlying331, ?_⟩
  refine ⟨tyS Tryz.t332 Tryz.underlying332, ?_⟩
  refine ⟨tyS Tryz.t333 Tryz.underlying333, ?_⟩
  refine ⟨tyS Tryz.t334 Tryz.underlying334, ?_⟩
  refine ⟨tyS Tryz.t335 Tryz.underlying335, ?_⟩
  refine ⟨tyS Tryz.t336 Tryz.underlying336, ?_⟩
  refine ⟨tyS Tryz.t337 Tryz.underlying337, ?_⟩
  refine ⟨tyS Tryz.t338 Tryz.underlying338, ?_⟩
  refine ⟨tyS Tryz.t339 Tryz.underlying339, ?_⟩
  refine ⟨tyS Tryz.t340 Tryz.underlying340, ?_⟩
  refine ⟨tyS Tryz.t341 Tryz.underlying341, ?_⟩
  refine ⟨tyS Tryz.t343 Tryz.underlying343, ?_⟩
  refine ⟨tyS Tryz.t344 Tryz.underlying344, ?_⟩
  refine ⟨tyS Tryz.t345 Tryz.underlying345, ?_⟩
  refine ⟨tyS Tryz.t346 Tryz.underlying346, ?_⟩
  refine ⟨tyS Tryz.t347 Tryz.underlying347, ?_⟩
  refine ⟨tyS Tryz.t348 Tryz.underlying348, ?_⟩
  refine ⟨tyS Tryz.t349 Tryz.underlying349, ?_⟩
  refine ⟨tyS Tryz.t350 Tryz.underlying350, ?_⟩
  refine ⟨tyS Tryz.t351 Tryz.underlying351, ?_⟩
  refine ⟨tyS Tryz.t352 Tryz.underlying352, ?_⟩
  refine ⟨tyS Tryz.t353 Tryz.underlying353, ?_⟩
  refine ⟨tyS Tryz.t354 Tryz.underlying354, ?_⟩
  refine ⟨tyS Tryz.t355 Tryz.underlying355, ?_⟩
  refine ⟨tyS Tryz.t356 Tryz.underlying356, ?_⟩
  refine ⟨tyS Tryz.t357 Tryz.underlying357, ?_⟩
  refine ⟨tyS Tryz.t358 Tryz.underlying358, ?_⟩
  refine ⟨tyS Tryz.t359 Tryz.underlying359, ?_⟩
  refine ⟨tyS Tryz.t360 Tryz.underlying360, ?_⟩
  exact trivial
 unfold Tryz.τ at h
 have h2 : Tryz.tL[T]? = some (some e) := by
  cases ht : Tryz.tL[T]? with
  | none => rw [ht] at h; cases h
  | some x => rw [ht] at h; exact congrArg some h
 have := AllOk.at _ 0 T e hL h2
 rwa [Nat.zero_add] at this
theorem Tryz.mixed : Tryz.prog.follows .mixedOrders = true := by kernel_rfl
theorem Tryz.body17 : Body Tryz.prog 17 := ⟨Tryz.f17, _, Tryz.func17, rfl, by kernel_rfl⟩
theorem Tryz.body18 : Body Tryz.prog 18 := ⟨Tryz.f18, _, Tryz.func18, rfl, by kernel_rfl⟩
theorem Tryz.body19 : Body Tryz.prog 19 := ⟨Tryz.f19, _, Tryz.func19, rfl, by kernel_rfl⟩
theorem Tryz.body20 : Body Tryz.prog 20 := ⟨Tryz.f20, _, Tryz.func20, rfl, by kernel_rfl⟩
theorem Tryz.body21 : Body Tryz.prog 21 := ⟨Tryz.f21, _, Tryz.func21, rfl, by kernel_rfl⟩
theorem Tryz.body22 : Body Tryz.prog 22 := ⟨Tryz.f22, _, Tryz.func22, rfl, by kernel_rfl⟩
theorem Tryz.body31 : Body Tryz.prog 31 := ⟨Tryz.f31, _, Tryz.func31, rfl, by kernel_rfl⟩
theorem Tryz.body33 : Body Tryz.prog 33 := ⟨Tryz.f33, _, Tryz.func33, rfl, by kernel_rfl⟩
theorem Tryz.body34 : Body Tryz.prog 34 := ⟨Tryz.f34, _, Tryz.func34, rfl, by kernel_rfl⟩
theorem Tryz.body35 : Body Tryz.prog 35 := ⟨Tryz.f35, _, Tryz.func35, rfl, by kernel_rfl⟩
theorem Tryz.body36 : Body Tryz.prog 36 := ⟨Tryz.f36, _, Tryz.func36, rfl, by kernel_rfl⟩
theorem Tryz.body39 : Body Tryz.prog 39 := ⟨Tryz.f39, _, Tryz.func39, rfl, by kernel_rfl⟩
theorem Tryz.body52 : Body Tryz.prog 52 := ⟨Tryz.f52, _, Tryz.func52, rfl, by kernel_rfl⟩
theorem Tryz.body53 : Body Tryz.prog 53 := ⟨Tryz.f53, _, Tryz.func53, rfl, by kernel_rfl⟩
theorem Tryz.body54 : Body Tryz.prog 54 := ⟨Tryz.f54, _, Tryz.func54, rfl, by kernel_rfl⟩
theorem Tryz.body55 : Body Tryz.prog 55 := ⟨Tryz.f55, _, Tryz.func55, rfl, by kernel_rfl⟩
theorem Tryz.body56 : Body Tryz.prog 56 := ⟨Tryz.f56, _, Tryz.func56, rfl, by kernel_rfl⟩
theorem Tryz.body57 : Body Tryz.prog 57 := ⟨Tryz.f57, _, Tryz.func57, rfl, by kernel_rfl⟩
theorem Tryz.body58 : Body Tryz.prog 58 := ⟨Tryz.f58, _, Tryz.func58, rfl, by kernel_rfl⟩
theorem Tryz.body59 : Body Tryz.prog 59 := ⟨Tryz.f59, _, Tryz.func59, rfl, by kernel_rfl⟩
theorem Tryz.body60 : Body Tryz.prog 60 := ⟨Tryz.f60, _, Tryz.func60, rfl, by kernel_rfl⟩
theorem Tryz.body61 : Body Tryz.prog 61 := ⟨Tryz.f61, _, Tryz.func61, rfl, by kernel_rfl⟩
theorem Tryz.body62 : Body Tryz.prog 62 := ⟨Tryz.f62, _, Tryz.func62, rfl, by kernel_rfl⟩
theorem Tryz.body63 : Body Tryz.prog 63 := ⟨Tryz.f63, _, Tryz.func63, rfl, by kernel_rfl⟩
theorem Tryz.body66 : Body Tryz.prog 66 := ⟨Tryz.f66, _, Tryz.func66, rfl, by kernel_rfl⟩
theorem Tryz.body69 : Body Tryz.prog 69 := ⟨Tryz.f69, _, Tryz.func69, rfl, by kernel_rfl⟩
theorem Tryz.body71 : Body Tryz.prog 71 := ⟨Tryz.f71, _, Tryz.func71, rfl, by kernel_rfl⟩
theorem Tryz.body72 : Body Tryz.prog 72 := ⟨Tryz.f72, _, Tryz.func72, rfl, by kernel_rfl⟩
theorem Tryz.body74 : Body Tryz.prog 74 := ⟨Tryz.f74, _, Tryz.func74, rfl, by kernel_rfl⟩
theorem Tryz.body75 : Body Tryz.prog 75 := ⟨Tryz.f75, _, Tryz.func75, rfl, by kernel_rfl⟩
theorem Tryz.body76 : Body Tryz.prog 76 := ⟨Tryz.f76, _, Tryz.func76, rfl, by kernel_rfl⟩
theorem Tryz.body78 : Body Tryz.prog 78 := ⟨Tryz.f78, _, Tryz.func78, rfl, by kernel_rfl⟩
theorem Tryz.body79 : Body Tryz.prog 79 := ⟨Tryz.f79, _, Tryz.func79, rfl, by kernel_rfl⟩
theorem Tryz.body80 : Body Tryz.prog 80 := ⟨Tryz.f80, _, Tryz.func80, rfl, by kernel_rfl⟩
theorem Tryz.body81 : Body Tryz.prog 81 := ⟨Tryz.f81, _, Tryz.func81, rfl, by kernel_rfl⟩
theorem Tryz.body84 : Body Tryz.prog 84 := ⟨Tryz.f84, _, Tryz.func84, rfl, by kernel_rfl⟩
theorem Tryz.body85 : Body Tryz.prog 85 := ⟨Tryz.f85, _, Tryz.func85, rfl, by kernel_rfl⟩
theorem Tryz.body86 : Body Tryz.prog 86 := ⟨Tryz.f86, _, Tryz.func86, rfl, by kernel_rfl⟩
theorem Tryz.body87 : Body Tryz.prog 87 := ⟨Tryz.f87, _, Tryz.func87, rfl, by kernel_rfl⟩
theorem Tryz.body100 : Body Tryz.prog 100 := ⟨Tryz.f100, _, Tryz.func100, rfl, by kernel_rfl⟩
theorem Tryz.body101 : Body Tryz.prog 101 := ⟨Tryz.f101, _, Tryz.func101, rfl, by kernel_rfl⟩
theorem Tryz.body102 : Body Tryz.prog 102 := ⟨Tryz.f102, _, Tryz.func102, rfl, by kernel_rfl⟩
theorem Tryz.body103 : Body Tryz.prog 103 := ⟨Tryz.f103, _, Tryz.func103, rfl, by kernel_rfl⟩
theorem Tryz.body104 : Body Tryz.prog 104 := ⟨Tryz.f104, _, Tryz.func104, rfl, by kernel_rfl⟩
theorem Tryz.body105 : Body Tryz.prog 105 := ⟨Tryz.f105, _, Tryz.func105, rfl, by kernel_rfl⟩
theorem Tryz.body111 : Body Tryz.prog 111 := ⟨Tryz.f111, _, Tryz.func111, rfl, by kernel_rfl⟩
theorem Tryz.body113 : Body Tryz.prog 113 := ⟨Tryz.f113, _, Tryz.func113, rfl, by kernel_rfl⟩
theorem Tryz.body116 : Body Tryz.prog 116 := ⟨Tryz.f116, _, Tryz.func116, rfl, by kernel_rfl⟩
theorem Tryz.body117 : Body Tryz.prog 117 := ⟨Tryz.f117, _, Tryz.func117, rfl, by kernel_rfl⟩
theorem Tryz.body118 : Body Tryz.prog 118 := ⟨Tryz.f118, _, Tryz.func118, rfl, by kernel_rfl⟩
theorem Tryz.body119 : Body Tryz.prog 119 := ⟨Tryz.f119, _, Tryz.func119, rfl, by kernel_rfl⟩
theorem Tryz.body120 : Body Tryz.prog 120 := ⟨Tryz.f120, _, Tryz.func120, rfl, by kernel_rfl⟩
theorem Tryz.body121 : Body Tryz.prog 121 := ⟨Tryz.f121, _, Tryz.func121, rfl, by kernel_rfl⟩
theorem Tryz.body123 : Body Tryz.prog 123 := ⟨Tryz.f123, _, Tryz.func123, rfl, by kernel_rfl⟩
theorem Tryz.body126 : Body Tryz.prog 126 := ⟨Tryz.f126, _, Tryz.func126, rfl, by kernel_rfl⟩
theorem Tryz.body128 : Body Tryz.prog 128 := ⟨Tryz.f128, _, Tryz.func128, rfl, by kernel_rfl⟩
theorem Tryz.body129 : Body Tryz.prog 129 := ⟨Tryz.f129, _, Tryz.func129, rfl, by kernel_rfl⟩
theorem Tryz.body130 : Body Tryz.prog 130 := ⟨Tryz.f130, _, Tryz.func130, rfl, by kernel_rfl⟩
theorem Tryz.body131 : Body Tryz.prog 131 := ⟨Tryz.f131, _, Tryz.func131, rfl, by kernel_rfl⟩
theorem Tryz.body132 : Body Tryz.prog 132 := ⟨Tryz.f132, _, Tryz.func132, rfl, by kernel_rfl⟩
theorem Tryz.body133 : Body Tryz.prog 133 := ⟨Tryz.f133, _, Tryz.func133, rfl, by kernel_rfl⟩
theorem Tryz.body134 : Body Tryz.prog 134 := ⟨Tryz.f134, _, Tryz.func134, rfl, by kernel_rfl⟩
theorem Tryz.body135 : Body Tryz.prog 135 := ⟨Tryz.f135, _, Tryz.func135, rfl, by kernel_rfl⟩
theorem Tryz.body136 : Body Tryz.prog 136 := ⟨Tryz.f136, _, Tryz.func136, rfl, by kernel_rfl⟩
theorem Tryz.body137 : Body Tryz.prog 137 := ⟨Tryz.f137, _, Tryz.func137, rfl, by kernel_rfl⟩
theorem Tryz.body142 : Body Tryz.prog 142 := ⟨Tryz.f142, _, Tryz.func142, rfl, by kernel_rfl⟩
theorem Tryz.body143 : Body Tryz.prog 143 := ⟨Tryz.f143, _, Tryz.func143, rfl, by kernel_rfl⟩
theorem Tryz.body159 : Body Tryz.prog 159 := ⟨Tryz.f159, _, Tryz.func159, rfl, by kernel_rfl⟩
theorem Tryz.body160 : Body Tryz.prog 160 := ⟨Tryz.f160, _, Tryz.func160, rfl, by kernel_rfl⟩
theorem Tryz.body161 : Body Tryz.prog 161 := ⟨Tryz.f161, _, Tryz.func161, rfl, by kernel_rfl⟩
theorem Tryz.body163 : Body Tryz.prog 163 := ⟨Tryz.f163, _, Tryz.func163, rfl, by kernel_rfl⟩
theorem Tryz.body164 : Body Tryz.prog 164 := ⟨Tryz.f164, _, Tryz.func164, rfl, by kernel_rfl⟩
theorem Tryz.body165 : Body Tryz.prog 165 := ⟨Tryz.f165, _, Tryz.func165, rfl, by kernel_rfl⟩
theorem Tryz.body166 : Body Tryz.prog 166 := ⟨Tryz.f166, _, Tryz.func166, rfl, by kernel_rfl⟩
theorem Tryz.body167 : Body Tryz.prog 167 := ⟨Tryz.f167, _, Tryz.func167, rfl, by kernel_rfl⟩
theorem Tryz.body168 : Body Tryz.prog 168 := ⟨Tryz.f168, _, Tryz.func168, rfl, by kernel_rfl⟩
theorem Tryz.body170 : Body Tryz.prog 170 := ⟨Tryz.f170, _, Tryz.func170, rfl, by kernel_rfl⟩
theorem Tryz.body171 : Body Tryz.prog 171 := ⟨Tryz.f171, _, Tryz.func171, rfl, by kernel_rfl⟩
theorem Tryz.body172 : Body Tryz.prog 172 := ⟨Tryz.f172, _, Tryz.func172, rfl, by kernel_rfl⟩
theorem Tryz.body173 : Body Tryz.prog 173 := ⟨Tryz.f173, _, Tryz.func173, rfl, by kernel_rfl⟩
theorem Tryz.body174 : Body Tryz.prog 174 := ⟨Tryz.f174, _, Tryz.func174, rfl, by kernel_rfl⟩
theorem Tryz.body175 : Body Tryz.prog 175 := ⟨Tryz.f175, _, Tryz.func175, rfl, by kernel_rfl⟩
theorem Tryz.body176 : Body Tryz.prog 176 := ⟨Tryz.f176, _, Tryz.func176, rfl, by kernel_rfl⟩
theorem Tryz.body177 : Body Tryz.prog 177 := ⟨Tryz.f177, _, Tryz.func177, rfl, by kernel_rfl⟩
theorem Tryz.body178 : Body Tryz.prog 178 := ⟨Tryz.f178, _, Tryz.func178, rfl, by kernel_rfl⟩
theorem Tryz.body179 : Body Tryz.prog 179 := ⟨Tryz.f179, _, Tryz.func179, rfl, by kernel_rfl⟩
theorem Tryz.body180 : Body Tryz.prog 180 := ⟨Tryz.f180, _, Tryz.func180, rfl, by kernel_rfl⟩
theorem Tryz.body181 : Body Tryz.prog 181 := ⟨Tryz.f181, _, Tryz.func181, rfl, by kernel_rfl⟩
theorem Tryz.body182 : Body Tryz.prog 182 := ⟨Tryz.f182, _, Tryz.func182, rfl, by kernel_rfl⟩
theorem Tryz.body183 : Body Tryz.prog 183 := ⟨Tryz.f183, _, Tryz.func183, rfl, by kernel_rfl⟩
theorem Tryz.body184 : Body Tryz.prog 184 := ⟨Tryz.f184, _, Tryz.func184, rfl, by kernel_rfl⟩
theorem Tryz.body185 : Body Tryz.prog 185 := ⟨Tryz.f185, _, Tryz.func185, rfl, by kernel_rfl⟩
theorem Tryz.body187 : Body Tryz.prog 187 := ⟨Tryz.f187, _, Tryz.func187, rfl, by kernel_rfl⟩
theorem Tryz.body188 : Body Tryz.prog 188 := ⟨Tryz.f188, _, Tryz.func188, rfl, by kernel_rfl⟩
theorem Tryz.body189 : Body Tryz.prog 189 := ⟨Tryz.f189, _, Tryz.func189, rfl, by kernel_rfl⟩
theorem Tryz.body190 : Body Tryz.prog 190 := ⟨Tryz.f190, _, Tryz.func190, rfl, by kernel_rfl⟩
theorem Tryz.body191 : Body Tryz.prog 191 := ⟨Tryz.f191, _, Tryz.func191, rfl, by kernel_rfl⟩
theorem Tryz.body192 : Body Tryz.prog 192 := ⟨Tryz.f192, _, Tryz.func192, rfl, by kernel_rfl⟩
theorem Tryz.body194 : Body Tryz.prog 194 := ⟨Tryz.f194, _, Tryz.func194, rfl, by kernel_rfl⟩
theorem Tryz.body195 : Body Tryz.prog 195 := ⟨Tryz.f195, _, Tryz.func195, rfl, by kernel_rfl⟩
theorem Tryz.body196 : Body Tryz.prog 196 := ⟨Tryz.f196, _, Tryz.func196, rfl, by kernel_rfl⟩
theorem Tryz.body204 : Body Tryz.prog 204 := ⟨Tryz.f204, _, Tryz.func204, rfl, by kernel_rfl⟩
theorem Tryz.body205 : Body Tryz.prog 205 := ⟨Tryz.f205, _, Tryz.func205, rfl, by kernel_rfl⟩
theorem Tryz.body206 : Body Tryz.prog 206 := ⟨Tryz.f206, _, Tryz.func206, rfl, by kernel_rfl⟩
theorem Tryz.body207 : Body Tryz.prog 207 := ⟨Tryz.f207, _, Tryz.func207, rfl, by kernel_rfl⟩
theorem Tryz.body208 : Body Tryz.prog 208 := ⟨Tryz.f208, _, Tryz.func208, rfl, by kernel_rfl⟩
theorem Tryz.body211 : Body Tryz.prog 211 := ⟨Tryz.f211, _, Tryz.func211, rfl, by kernel_rfl⟩
theorem Tryz.body212 : Body Tryz.prog 212 := ⟨Tryz.f212, _, Tryz.func212, rfl, by kernel_rfl⟩
theorem Tryz.body213 : Body Tryz.prog 213 := ⟨Tryz.f213, _, Tryz.func213, rfl, by kernel_rfl⟩
theorem Tryz.body214 : Body Tryz.prog 214 := ⟨Tryz.f214, _, Tryz.func214, rfl, by kernel_rfl⟩
theorem Tryz.body215 : Body Tryz.prog 215 := ⟨Tryz.f215, _, Tryz.func215, rfl, by kernel_rfl⟩
theorem Tryz.body216 : Body Tryz.prog 216 := ⟨Tryz.f216, _, Tryz.func216, rfl, by kernel_rfl⟩
theorem Tryz.body217 : Body Tryz.prog 217 := ⟨Tryz.f217, _, Tryz.func217, rfl, by kernel_rfl⟩
theorem Tryz.body218 : Body Tryz.prog 218 := ⟨Tryz.f218, _, Tryz.func218, rfl, by kernel_rfl⟩
theorem Tryz.body219 : Body Tryz.prog 219 := ⟨Tryz.f219, _, Tryz.func219, rfl, by kernel_rfl⟩
theorem Tryz.body220 : Body Tryz.prog 220 := ⟨Tryz.f220, _, Tryz.func220, rfl, by kernel_rfl⟩
theorem Tryz.body221 : Body Tryz.prog 221 := ⟨Tryz.f221, _, Tryz.func221, rfl, by kernel_rfl⟩
theorem Tryz.body222 : Body Tryz.prog 222 := ⟨Tryz.f222, _, Tryz.func222, rfl, by kernel_rfl⟩
theorem Tryz.body232 : Body Tryz.prog 232 := ⟨Tryz.f232, _, Tryz.func232, rfl, by kernel_rfl⟩
theorem Tryz.body233 : Body Tryz.prog 233 := ⟨Tryz.f233, _, Tryz.func233, rfl, by kernel_rfl⟩
theorem Tryz.body234 : Body Tryz.prog 234 := ⟨Tryz.f234, _, Tryz.func234, rfl, by kernel_rfl⟩
theorem Tryz.body235 : Body Tryz.prog 235 := ⟨Tryz.f235, _, Tryz.func235, rfl, by kernel_rfl⟩
theorem Tryz.body236 : Body Tryz.prog 236 := ⟨Tryz.f236, _, Tryz.func236, rfl, by kernel_rfl⟩
theorem Tryz.body237 : Body Tryz.prog 237 := ⟨Tryz.f237, _, Tryz.func237, rfl, by kernel_rfl⟩
theorem Tryz.body238 : Body Tryz.prog 238 := ⟨Tryz.f238, _, Tryz.func238, rfl, by kernel_rfl⟩
theorem Tryz.body257 : Body Tryz.prog 257 := ⟨Tryz.f257, _, Tryz.func257, rfl, by kernel_rfl⟩
theorem Tryz.body259 : Body Tryz.prog 259 := ⟨Tryz.f259, _, Tryz.func259, rfl, by kernel_rfl⟩
theorem Tryz.body260 : Body Tryz.prog 260 := ⟨Tryz.f260, _, Tryz.func260, rfl, by kernel_rfl⟩
theorem Tryz.body261 : Body Tryz.prog 261 := ⟨Tryz.f261, _, Tryz.func261, rfl, by kernel_rfl⟩
theorem Tryz.body262 : Body Tryz.prog 262 := ⟨Tryz.f262, _, Tryz.func262, rfl, by kernel_rfl⟩
theorem Tryz.body263 : Body Tryz.prog 263 := ⟨Tryz.f263, _, Tryz.func263, rfl, by kernel_rfl⟩
theorem Tryz.body264 : Body Tryz.prog 264 := ⟨Tryz.f264, _, Tryz.func264, rfl, by kernel_rfl⟩
theorem Tryz.body265 : Body Tryz.prog 265 := ⟨Tryz.f265, _, Tryz.func265, rfl, by kernel_rfl⟩
theorem Tryz.body277 : Body Tryz.prog 277 := ⟨Tryz.f277, _, Tryz.func277, rfl, by kernel_rfl⟩
theorem Tryz.body280 : Body Tryz.prog 280 := ⟨Tryz.f280, _, Tryz.func280, rfl, by kernel_rfl⟩
theorem Tryz.body281 : Body Tryz.prog 281 := ⟨Tryz.f281, _, Tryz.func281, rfl, by kernel_rfl⟩
instance : Glob := ⟨fun
 | 12 => some [.v (.int .u32 1779033703), .v (.int .u32 3144134277), .v (.int .u32 1013904242), .v (.int .u32 2773480762), .v (.int .u32 1359893119), .v (.int .u32 2600822924), .v (.int .u32 528734635), .v (.int .u32 1541459225)]
 | 13 => some [.v (.int .u8 0), .v (.int .u8 1), .v (.int .u8 2), .v (.int .u8 3), .v (.int .u8 4), .v (.int .u8 5), .v (.int .u8 6), .v (.int .u8 7), .v (.int .u8 8), .v (.int .u8 9), .v (.int .u8 10), .v (.int .u8 11), .v (.int .u8 12), .v (.int .u8 13), .v (.int .u8 14), .v (.int .u8 15), .v (.int .u8 14), .v (.int .u8 10), .v (.int .u8 4), .v (.int .u8 8), .v (.int .u8 9), .v (.int .u8 15), .v (.int .u8 13), .v (.int .u8 6), .v (.int .u8 1), .v (.int .u8 12), .v (.int .u8 0), .v (.int .u8 2), .v (.int .u8 11), .v (.int .u8 7), .v (.int .u8 5), .v (.int .u8 3), .v (.int .u8 11), .v (.int .u8 8), .v (.int .u8 12), .v (.int .u8 0), .v (.int .u8 5), .v (.int .u8 2), .v (.int .u8 15), .v (.int .u8 13), .v (.int .u8 10), .v (.int .u8 14), .v (.int .u8 3), .v (.int .u8 6), .v (.int .u8 7), .v (.int .u8 1), .v (.int .u8 9), .v (.int .u8 4), .v (.int .u8 7), .v (.int .u8 9), .v (.int .u8 3), .v (.int .u8 1), .v (.int .u8 13), .v (.int .u8 12), .v (.int .u8 11), .v (.int .u8 14), .v (.int .u8 2), .v (.int .u8 6), .v (.int .u8 5), .v (.int .u8 10), .v (.int .u8 4), .v (.int .u8 0), .v (.int .u8 15), .v (.int .u8 8), .v (.int .u8 9), .v (.int .u8 0), .v (.int .u8 5), .v (.int .u8 7), .v (.int .u8 2), .v (.int .u8 4), .v (.int .u8 10), .v (.int .u8 15), .v (.int .u8 14), .v (.int .u8 1), .v (.int .u8 11), .v (.int .u8 12), .v (.int .u8 6), .v (.int .u8 8), .v (.int .u8 3), .v (.int .u8 13), .v (.int .u8 2), .v (.int .u8 12), .v (.int .u8 6), .v (.int .u8 10), .v (.int .u8 0), .v (.int .u8 11), .v (.int .u8 8), .v (.int .u8 3), .v (.int .u8 4), .v (.int .u8 13), .v (.int .u8 7), .v (.int .u8 5), .v (.int .u8 15), .v (.int .u8 14), .v (.int .u8 1), .v (.int .u8 9), .v (.int .u8 12), .v (.int .u8 5), .v (.int .u8 1), .v (.int .u8 15), .v (.int .u8 14), .v (.int .u8 13), .v (.int .u8 4), .v (.int .u8 10), .v (.int .u8 0), .v (.int .u8 7), .v (.int .u8 6), .v (.int .u8 3), .v (.int .u8 9), .v (.int .u8 2), .v (.int .u8 8), .v (.int .u8 11), .v (.int .u8 13), .v (.int .u8 11), .v (.int .u8 7), .v (.int .u8 14), .v (.int .u8 12), .v (.int .u8 1), .v (.int .u8 3), .v (.int .u8 9), .v (.int .u8 5), .v (.int .u8 0), .v (.int .u8 15), .v (.int .u8 4), .v (.int .u8 8), .v (.int .u8 6), .v (.int .u8 2), .v (.int .u8 10), .v (.int .u8 6), .v (.int .u8 15), .v (.int .u8 14), .v (.int .u8 9), .v (.int .u8 11), .v (.int .u8 3), .v (.int .u8 0), .v (.int .u8 8), .v (.int .u8 12), .v (.int .u8 2), .v (.int .u8 13), .v (.int .u8 7), .v (.int .u8 1), .v (.int .u8 4), .v (.int .u8 10), .v (.int .u8 5), .v (.int .u8 10), .v (.int .u8 2), .v (.int .u8 8), .v (.int .u8 4), .v (.int .u8 7), .v (.int .u8 6), .v (.int .u8 1), .v (.int .u8 5), .v (.int .u8 15), .v (.int .u8 11), .v (.int .u8 9), .v (.int .u8 14), .v (.int .u8 3), .v (.int .u8 12), .v (.int .u8 13), .v (.int .u8 0)]
 | 2 => some [.v (.int .i64 (-1099511627776)), .v (.int .i64 1099511627776)]
 | 6 => some [.v (.int .i64 0), .v (.int .i64 1099511627776)]
 | 1 => some [.v (.int .i64 1), .v (.int .i64 9999)]
 | 4 => some [.v (.int .i64 0), .v (.int .i64 39)]
 | 5 => some [.v (.int .i64 0), .v (.int .i64 255)]
 | 3 => some [.v (.int .i64 0), .v (.int .i64 1048576)]
 | 7 => some [.v (.int .i64 0), .v (.int .i64 255)]
 | 8 => some [.v (.int .i64 1), .v (.int .i64 1048576)]
 | 10 => some [.v (.int .i64 0), .v (.int .i64 31)]
 | 11 => some [.v (.int .i64 1), .v (.int .i64 1048576)]
 | 9 => some [.v (.int .i64 0), .v (.int .i64 1)]
 | _ => none⟩
@[simp] theorem Tryz.laid12 : (Glob.laid 12 : Option (List D)) = some [.v (.int .u32 1779033703), .v (.int .u32 3144134277), .v (.int .u32 1013904242), .v (.int .u32 2773480762), .v (.int .u32 1359893119), .v (.int .u32 2600822924), .v (.int .u32 528734635), .v (.int .u32 1541459225)] := rfl
@[simp] theorem Tryz.laid13 : (Glob.laid 13 : Option (List D)) = some [.v (.int .u8 0), .v (.int .u8 1), .v (.int .u8 2), .v (.int .u8 3), .v (.int .u8 4), .v (.int .u8 5), .v (.int .u8 6), .v (.int .u8 7), .v (.int .u8 8), .v (.int .u8 9), .v (.int .u8 10), .v (.int .u8 11), .v (.int .u8 12), .v (.int .u8 13), .v (.int .u8 14), .v (.int .u8 15), .v (.int .u8 14), .v (.int .u8 10), .v (.int .u8 4), .v (.int .u8 8), .v (.int .u8 9), .v (.int .u8 15), .v (.int .u8 13), .v (.int .u8 6), .v (.int .u8 1), .v (.int .u8 12), .v (.int .u8 0), .v (.int .u8 2), .v (.int .u8 11), .v (.int .u8 7), .v (.int .u8 5), .v (.int .u8 3), .v (.int .u8 11), .v (.int .u8 8), .v (.int .u8 12), .v (.int .u8 0), .v (.int .u8 5), .v (.int .u8 2), .v (.int .u8 15), .v (.int .u8 13), .v (.int .u8 10), .v (.int .u8 14), .v (.int .u8 3), .v (.int .u8 6), .v (.int .u8 7), .v (.int .u8 1), .v (.int .u8 9), .v (.int .u8 4), .v (.int .u8 7), .v (.int .u8 9), .v (.int .u8 3), .v (.int .u8 1), .v (.int .u8 13), .v (.int .u8 12), .v (.int .u8 11), .v (.int .u8 14), .v (.int .u8 2), .v (.int .u8 6), .v (.int .u8 5), .v (.int .u8 10), .v (.int .u8 4), .v (.int .u8 0), .v (.int .u8 15), .v (.int .u8 8), .v (.int .u8 9), .v (.int .u8 0), .v (.int .u8 5), .v (.int .u8 7), .v (.int .u8 2), .v (.int .u8 4), .v (.int .u8 10), .v (.int .u8 15), .v (.int .u8 14), .v (.int .u8 1), .v (.int .u8 11), .v (.int .u8 12), .v (.int .u8 6), .v (.int .u8 8), .v (.int .u8 3), .v (.int .u8 13), .v (.int .u8 2), .v (.int .u8 12), .v (.int .u8 6), .v (.int .u8 10), .v (.int .u8 0), .v (.int .u8 11), .v (.int .u8 8), .v (.int .u8 3), .v (.int .u8 4), .v (.int .u8 13), .v (.int .u8 7), .v (.int .u8 5), .v (.int .u8 15), .v (.int .u8 14), .v (.int .u8 1), .v (.int .u8 9), .v (.int .u8 12), .v (.int .u8 5), .v (.int .u8 1), .v (.int .u8 15), .v (.int .u8 14), .v (.int .u8 13), .v (.int .u8 4), .v (.int .u8 10), .v (.int .u8 0), .v (.int .u8 7), .v (.int .u8 6), .v (.int .u8 3), .v (.int .u8 9), .v (.int .u8 2), .v (.int .u8 8), .v (.int .u8 11), .v (.int .u8 13), .v (.int .u8 11), .v (.int .u8 7), .v (.int .u8 14), .v (.int .u8 12), .v (.int .u8 1), .v (.int .u8 3), .v (.int .u8 9), .v (.int .u8 5), .v (.int .u8 0), .v (.int .u8 15), .v (.int .u8 4), .v (.int .u8 8), .v (.int .u8 6), .v (.int .u8 2), .v (.int .u8 10), .v (.int .u8 6), .v (.int .u8 15), .v (.int .u8 14), .v (.int .u8 9), .v (.int .u8 11), .v (.int .u8 3), .v (.int .u8 0), .v (.int .u8 8), .v (.int .u8 12), .v (.int .u8 2), .v (.int .u8 13), .v (.int .u8 7), .v (.int .u8 1), .v (.int .u8 4), .v (.int .u8 10), .v (.int .u8 5), .v (.int .u8 10), .v (.int .u8 2), .v (.int .u8 8), .v (.int .u8 4), .v (.int .u8 7), .v (.int .u8 6), .v (.int .u8 1), .v (.int .u8 5), .v (.int .u8 15), .v (.int .u8 11), .v (.int .u8 9), .v (.int .u8 14), .v (.int .u8 3), .v (.int .u8 12), .v (.int .u8 13), .v (.int .u8 0)] := rfl
@[simp] theorem Tryz.laid2 : (Glob.laid 2 : Option (List D)) = some [.v (.int .i64 (-1099511627776)), .v (.int .i64 1099511627776)] := rfl
@[simp] theorem Tryz.laid6 : (Glob.laid 6 : Option (List D)) = some [.v (.int .i64 0), .v (.int .i64 1099511627776)] := rfl
@[simp] theorem Tryz.laid1 : (Glob.laid 1 : Option (List D)) = some [.v (.int .i64 1), .v (.int .i64 9999)] := rfl
@[simp] theorem Tryz.laid4 : (Glob.laid 4 : Option (List D)) = some [.v (.int .i64 0), .v (.int .i64 39)] := rfl
@[simp] theorem Tryz.laid5 : (Glob.laid 5 : Option (List D)) = some [.v (.int .i64 0), .v (.int .i64 255)] := rfl
@[simp] theorem Tryz.laid3 : (Glob.laid 3 : Option (List D)) = some [.v (.int .i64 0), .v (.int .i64 1048576)] := rfl
@[simp] theorem Tryz.laid7 : (Glob.laid 7 : Option (List D)) = some [.v (.int .i64 0), .v (.int .i64 255)] := rfl
@[simp] theorem Tryz.laid8 : (Glob.laid 8 : Option (List D)) = some [.v (.int .i64 1), .v (.int .i64 1048576)] := rfl
@[simp] theorem Tryz.laid10 : (Glob.laid 10 : Option (List D)) = some [.v (.int .i64 0), .v (.int .i64 31)] := rfl
@[simp] theorem Tryz.laid11 : (Glob.laid 11 : Option (List D)) = some [.v (.int .i64 1), .v (.int .i64 1048576)] := rfl
@[simp] theorem Tryz.laid9 : (Glob.laid 9 : Option (List D)) = some [.v (.int .i64 0), .v (.int .i64 1)] := rfl
end Go.Proofs.YtnljenjcaeophaaGreatDoor

namespace Go.Proofs.YtnljenjcaeophaaGreatDoor
open Go.Xe
/-- Of two claims the first by the usual means. -/
theorem aI {p q : Prop} (hq : q) (hp : p := by first | rfl | omega | decide | (simp; done) | (simp; omega) | (intro _ h; exact fcs_side h; done) | (intros; simp_all; done) | (intros; simp_all; omega)) : p ∧ q := ⟨hp, hq⟩
/-- One step into a code of a told form. -/
class Gn (P : Program) (ds : Dn) (pn : Pn) (c : Code) (Q : Exit → St → Prop) (S : St) (G : outParam Prop) : Prop where
 go : G → WP P ds pn c Q S
instance (P : Program) (ds : Dn) (pn : Pn) (Q : Exit → St → Prop) (S : St) (x y : Code) : Gn P ds pn (.seq x y) Q S (WP P ds pn x (seqQ P ds pn y Q) S) := ⟨WP.seq⟩
instance (P : Program) (ds : Dn) (pn : Pn) (Q : Exit → St → Prop) (S : St) (id : Nat) (c : Code) : Gn P ds pn (.block id c) Q S (WP P ds pn c (blkQ id Q) S) := ⟨WP.block⟩
theorem wG {P : Program} {ds : Dn} {pn : Pn} {c : Code} {Q : Exit → St → Prop} {S : St} {G : Prop} [i : Gn P ds pn c Q S G] (g : G) : WP P ds pn c Q S := i.go g
theorem wR {ds : Dn} {pn : Pn} {Q : Exit → St → Prop} {S : St} {id : Nat} {l : List Oper} {b : Bool} (h : vcOps Tryz.prog ds pn Tryz.τ (l.map (·.dst)) (fun tis S' => (b = true → freshS S (tis.flatMap fun t => t.e.add)) ∧ (b = true → drawOkT (pn.zs.map (·.1)) (l.map (·.dst)) l (tis.map TI.ts) = true) ∧ Q .normal S') l S []) : WP Tryz.prog ds pn (.region id l.toArray b) Q S := by
 cases b with
 | false =>
  refine WP.region Tryz.tab ?_
  have e : (fun (tis : List TI) (S' : St) => (false = true → freshS S (tis.flatMap fun t => t.e.add)) ∧ (false = true → drawOkT (pn.zs.map (·.1)) (l.map (·.dst)) l (tis.map TI.ts) = true) ∧ Q .normal S') = fun _ S' => Q .normal S' := by funext tis S'; simp
  rwa [e] at h
 | true =>
  refine WP.draw Tryz.tab Tryz.mixed ?_
  have e : (fun (tis : List TI) (S' : St) => (true = true → freshS S (tis.flatMap fun t => t.e.add)) ∧ (true = true → drawOkT (pn.zs.map (·.1)) (l.map (·.dst)) l (tis.map TI.ts) = true) ∧ Q .normal S') = fun tis S' => freshS S (tis.flatMap fun t => t.e.add) ∧ drawOkT (pn.zs.map (·.1)) (l.map (·.dst)) l (tis.map TI.ts) = true ∧ Q .normal S' := by funext tis S'; simp
  rwa [e] at h
theorem cF {ds : Dn} {pn : Pn} {Q : Exit → St → Prop} {S : St} {o : Operand} {x y : Code} (he : S.ev o = .d (.v (.bool false))) (h : WP Tryz.prog ds pn y Q S) : WP Tryz.prog ds pn (.cond o x y) Q S := WP.cond (b := false) he (fun h => by cases h) (fun _ => h)
theorem cT {ds : Dn} {pn : Pn} {Q : Exit → St → Prop} {S : St} {o : Operand} {x y : Code} (he : S.ev o = .d (.v (.bool true))) (h : WP Tryz.prog ds pn x Q S) : WP Tryz.prog ds pn (.cond o x y) Q S := WP.cond (b := true) he (fun _ => h) (fun h => by cases h)
end Go.Proofs.YtnljenjcaeophaaGreatDoor
