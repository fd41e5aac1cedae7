/-
  The types of the seat, for the engine. Printed by seatgen.py.
-/
import Derived.Test.YtnljenjcaeophaaGreatDoorRows
import Derived.Test.YtnljenjcaeophaaGreatDoorW3
set_option linter.unusedVariables false
set_option linter.unusedSimpArgs false
set_option linter.unusedSectionVars false
namespace Go.Proofs.YtnljenjcaeophaaGreatDoor
open Go.Xe
def iZ : Value := .int .i64 0
@[simp] theorem iZe : iZ = .int .i64 0 := rfl
def uZ : Value := .int .u8 0
@[simp] theorem uZe : uZ = .int .u8 0 := rfl
def bZ : Value := .bool false
@[simp] theorem bZe : bZ = .bool false := rfl
def nZ : Value := .slice none 0 0
@[simp] theorem nZe : nZ = .slice none 0 0 := rfl
def sZ : Value := .string { data := #[] }
@[simp] theorem sZe : sZ = .string { data := #[] } := rfl
def wZ : Value := .int .u32 0
@[simp] theorem wZe : wZ = .int .u32 0 := rfl
abbrev tF : Option TE := some ⟨.func, 1, 8, [.nilFunc]⟩
def io_ : List (Option TE) := [
 none,
 tF,
 some ⟨.int .i64,1,8,[iZ]⟩,
 some ⟨.int .i64,1,8,[iZ]⟩,
 some ⟨.bool,1,1,[bZ]⟩,
 some ⟨.int .u8,1,1,[uZ]⟩,
 some ⟨.int .u8,1,1,[uZ]⟩,
 none,
 some ⟨.struct [(0,2),(1,3),(2,4),(3,6)],4,24,[iZ,iZ,bZ,uZ]⟩,
 some ⟨.string,1,16,[sZ]⟩,
 some ⟨.string,1,16,[sZ]⟩,
 none,
 some ⟨.int .u64,1,8,[.int .u64 0]⟩,
 some ⟨.struct [(0,9),(1,12)],2,24,[sZ,.int .u64 0]⟩,
 none,
 none,
 some ⟨.ptr 351,1,8,[.pointer none]⟩,
 some ⟨.ptr 360,1,8,[.pointer none]⟩,
 some ⟨.struct [(0,17)],1,8,[.pointer none]⟩,
 none,
 some ⟨.iface,1,16,[.nilIface]⟩,
 none,
 some ⟨.slice 104,1,24,[nZ]⟩,
 some ⟨.slice 70,1,24,[nZ]⟩,
 none,
 some ⟨.struct [(0,23)],1,24,[nZ]⟩,
 tF,
 none,
 none,
 some ⟨.int .i64,1,8,[iZ]⟩,
 none,
 none,
 some ⟨.slice 63,1,24,[nZ]⟩,
 none,
 tF,
 none,
 none,
 none,
 none,
 none,
 some ⟨.struct [(0,3),(1,3),(2,3),(3,3),(4,3),(5,3),(6,3),(7,3)],8,64,[iZ,iZ,iZ,iZ,iZ,iZ,iZ,iZ]⟩,
 some ⟨.struct [(0,3),(1,3),(2,3),(3,3),(4,3),(5,3),(6,3),(7,3)],8,64,[iZ,iZ,iZ,iZ,iZ,iZ,iZ,iZ]⟩,
 none,
 some ⟨.struct [(0,3),(1,3),(2,3),(3,3)],4,32,[iZ,iZ,iZ,iZ]⟩,
 none,
 some ⟨.struct [(0,3),(1,3),(2,3),(3,3),(4,3)],5,40,[iZ,iZ,iZ,iZ,iZ]⟩,
 none,
 some ⟨.struct [(0,3),(1,3),(2,3),(3,3),(4,3),(5,3),(6,3),(7,3)],8,64,[iZ,iZ,iZ,iZ,iZ,iZ,iZ,iZ]⟩,
 none,
 some ⟨.struct [(0,3),(1,3),(2,3),(3,3)],4,32,[iZ,iZ,iZ,iZ]⟩,
 none,
 some ⟨.struct [(0,3),(1,3),(2,3),(3,3)],4,32,[iZ,iZ,iZ,iZ]⟩,
 some ⟨.struct [(0,3),(1,3)],2,16,[iZ,iZ]⟩,
 some ⟨.struct [(0,3),(1,3)],2,16,[iZ,iZ]⟩,
 none,
 some ⟨.struct [(0,3),(1,3),(2,3),(3,3)],4,32,[iZ,iZ,iZ,iZ]⟩,
 none,
 some ⟨.struct [(0,3),(1,3),(2,3),(3,3)],4,32,[iZ,iZ,iZ,iZ]⟩,
 none,
 some ⟨.struct [(0,3),(1,3),(2,3),(3,3),(4,3),(5,3)],6,48,[iZ,iZ,iZ,iZ,iZ,iZ]⟩,
 none,
 some ⟨.struct [(0,3),(1,4)],2,16,[iZ,bZ]⟩,
 none,
 some ⟨.struct [(0,3),(1,3)],2,16,[iZ,iZ]⟩,
 some ⟨.struct [(0,3),(1,3),(2,3),(3,3),(4,41),(12,43),(16,45),(21,47),(29,49),(33,51),(37,53),(39,55),(43,57),(47,59),(53,61),(55,63)],57,456,[iZ,iZ,iZ,iZ,iZ,iZ,iZ,iZ,iZ,iZ,iZ,iZ,iZ,iZ,iZ,iZ,iZ,iZ,iZ,iZ,iZ,iZ,iZ,iZ,iZ,iZ,iZ,iZ,iZ,iZ,iZ,iZ,iZ,iZ,iZ,iZ,iZ,iZ,iZ,iZ,iZ,iZ,iZ,iZ,iZ,iZ,iZ,iZ,iZ,iZ,iZ,iZ,iZ,iZ,bZ,iZ,iZ]⟩,
 some ⟨.struct [(0,3),(1,3),(2,3),(3,3),(4,41),(12,43),(16,45),(21,47),(29,49),(33,51),(37,53),(39,55),(43,57),(47,59),(53,61),(55,63)],57,456,[iZ,iZ,iZ,iZ,iZ,iZ,iZ,iZ,iZ,iZ,iZ,iZ,iZ,iZ,iZ,iZ,iZ,iZ,iZ,iZ,iZ,iZ,iZ,iZ,iZ,iZ,iZ,iZ,iZ,iZ,iZ,iZ,iZ,iZ,iZ,iZ,iZ,iZ,iZ,iZ,iZ,iZ,iZ,iZ,iZ,iZ,iZ,iZ,iZ,iZ,iZ,iZ,iZ,iZ,bZ,iZ,iZ]⟩,
 some ⟨.slice 102,1,24,[nZ]⟩,
 none,
 some ⟨.struct [(0,3),(1,66),(2,66),(3,66)],4,80,[iZ,nZ,nZ,nZ]⟩,
 none,
 some ⟨.struct [(0,65),(57,68)],61,536,[iZ,iZ,iZ,iZ,iZ,iZ,iZ,iZ,iZ,iZ,iZ,iZ,iZ,iZ,iZ,iZ,iZ,iZ,iZ,iZ,iZ,iZ,iZ,iZ,iZ,iZ,iZ,iZ,iZ,iZ,iZ,iZ,iZ,iZ,iZ,iZ,iZ,iZ,iZ,iZ,iZ,iZ,iZ,iZ,iZ,iZ,iZ,iZ,iZ,iZ,iZ,iZ,iZ,iZ,bZ,iZ,iZ,iZ,nZ,nZ,nZ]⟩,
 none,
 none,
 none,
 some ⟨.slice 5,1,24,[nZ]⟩,
 none,
 some ⟨.struct [(0,74),(1,3),(2,3)],3,40,[nZ,iZ,iZ]⟩,
 none,
 none,
 none,
 none,
 tF,
 none,
 none,
 none,
 none,
 none,
 none,
 none,
 none,
 none,
 tF,
 tF,
 none,
 none,
 none,
 none,
 none,
 none,
 none,
 none,
 none,
 some ⟨.array 32 5,32,32,[uZ,uZ,uZ,uZ,uZ,uZ,uZ,uZ,uZ,uZ,uZ,uZ,uZ,uZ,uZ,uZ,uZ,uZ,uZ,uZ,uZ,uZ,uZ,uZ,uZ,uZ,uZ,uZ,uZ,uZ,uZ,uZ]⟩,
 none,
 some ⟨.struct [(0,102),(32,3)],33,40,[uZ,uZ,uZ,uZ,uZ,uZ,uZ,uZ,uZ,uZ,uZ,uZ,uZ,uZ,uZ,uZ,uZ,uZ,uZ,uZ,uZ,uZ,uZ,uZ,uZ,uZ,uZ,uZ,uZ,uZ,uZ,uZ,iZ]⟩,
 some ⟨.slice 25,1,24,[nZ]⟩,
 none,
 none,
 tF,
 none,
 some ⟨.map 63 4,1,8,[.map none]⟩,
 none,
 none,
 none,
 none,
 some ⟨.slice 65,1,24,[nZ]⟩,
 none,
 none,
 none,
 none,
 none,
 tF,
 none,
 none,
 none,
 none,
 none,
 none,
 none,
 none,
 none,
 none,
 none,
 none,
 none,
 none,
 none,
 none,
 tF,
 none,
 none,
 none,
 none,
 none,
 none,
 none,
 none,
 none,
 none,
 none,
 none,
 none,
 none,
 none,
 none,
 none,
 none,
 some ⟨.slice 3,1,24,[nZ]⟩,
 none,
 none,
 none,
 none,
 some ⟨.slice 23,1,24,[nZ]⟩,
 none,
 tF,
 none,
 none,
 none,
 none,
 none,
 tF,
 none,
 none,
 none,
 some ⟨.int .u64,1,8,[.int .u64 0]⟩,
 none,
 none,
 none,
 none,
 none,
 none,
 none,
 none,
 none,
 none,
 some ⟨.array 64 4,64,64,[bZ,bZ,bZ,bZ,bZ,bZ,bZ,bZ,bZ,bZ,bZ,bZ,bZ,bZ,bZ,bZ,bZ,bZ,bZ,bZ,bZ,bZ,bZ,bZ,bZ,bZ,bZ,bZ,bZ,bZ,bZ,bZ,bZ,bZ,bZ,bZ,bZ,bZ,bZ,bZ,bZ,bZ,bZ,bZ,bZ,bZ,bZ,bZ,bZ,bZ,bZ,bZ,bZ,bZ,bZ,bZ,bZ,bZ,bZ,bZ,bZ,bZ,bZ,bZ]⟩,
 none,
 tF,
 none,
 none,
 none,
 none,
 some ⟨.slice 4,1,24,[nZ]⟩,
 none,
 none,
 none,
 none,
 none,
 none,
 none,
 none,
 none,
 none,
 none,
 none,
 some ⟨.slice 207,1,24,[nZ]⟩,
 none,
 some ⟨.struct [(0,3),(1,3),(2,9),(3,205)],4,56,[iZ,iZ,sZ,nZ]⟩,
 none,
 none,
 none,
 none,
 none,
 none,
 none,
 none,
 none,
 none,
 none,
 none,
 none,
 none,
 some ⟨.slice 234,1,24,[nZ]⟩,
 none,
 some ⟨.struct [(0,222),(1,26)],2,32,[nZ,.nilFunc]⟩,
 none,
 none,
 some ⟨.ptr 65,1,8,[.pointer none]⟩,
 some ⟨.ptr 3,1,8,[.pointer none]⟩,
 none,
 tF,
 none,
 some ⟨.struct [(0,3),(1,3)],2,16,[iZ,iZ]⟩,
 none,
 some ⟨.struct [(0,228),(1,232)],3,24,[.pointer none,iZ,iZ]⟩,
 none,
 none,
 none,
 none,
 none,
 none,
 none,
 none,
 none,
 none,
 none,
 none,
 none,
 none,
 tF,
 none,
 some ⟨.struct [(0,249)],1,8,[.nilFunc]⟩,
 some ⟨.ptr 297,1,8,[.pointer none]⟩,
 none,
 none,
 none,
 none,
 none,
 none,
 none,
 none,
 none,
 none,
 none,
 none,
 some ⟨.ptr 41,1,8,[.pointer none]⟩,
 some ⟨.ptr 43,1,8,[.pointer none]⟩,
 some ⟨.ptr 45,1,8,[.pointer none]⟩,
 some ⟨.ptr 47,1,8,[.pointer none]⟩,
 some ⟨.ptr 49,1,8,[.pointer none]⟩,
 some ⟨.ptr 51,1,8,[.pointer none]⟩,
 some ⟨.ptr 53,1,8,[.pointer none]⟩,
 some ⟨.ptr 55,1,8,[.pointer none]⟩,
 some ⟨.ptr 57,1,8,[.pointer none]⟩,
 some ⟨.ptr 59,1,8,[.pointer none]⟩,
 some ⟨.slice 74,1,24,[nZ]⟩,
 none,
 some ⟨.int .u32,1,4,[wZ]⟩,
 some ⟨.array 8 277,8,32,[wZ,wZ,wZ,wZ,wZ,wZ,wZ,wZ]⟩,
 some ⟨.int .u64,1,8,[.int .u64 0]⟩,
 none,
 some ⟨.ptr 278,1,8,[.pointer none]⟩,
 none,
 none,
 none,
 none,
 none,
 none,
 none,
 none,
 none,
 none,
 none,
 none,
 none,
 none,
 none,
 some ⟨.array 4 251,4,32,[.nilFunc,.nilFunc,.nilFunc,.nilFunc]⟩,
 none,
 none,
 none,
 none,
 none,
 none,
 none,
 none,
 none,
 none,
 none,
 none,
 none,
 none,
 some ⟨.array 16 277,16,64,[wZ,wZ,wZ,wZ,wZ,wZ,wZ,wZ,wZ,wZ,wZ,wZ,wZ,wZ,wZ,wZ]⟩,
 some ⟨.array 16 277,16,64,[wZ,wZ,wZ,wZ,wZ,wZ,wZ,wZ,wZ,wZ,wZ,wZ,wZ,wZ,wZ,wZ]⟩,
 some ⟨.slice 277,1,24,[nZ]⟩,
 tF,
 some ⟨.array 16 5,16,16,[uZ,uZ,uZ,uZ,uZ,uZ,uZ,uZ,uZ,uZ,uZ,uZ,uZ,uZ,uZ,uZ]⟩,
 some ⟨.array 10 316,160,160,[uZ,uZ,uZ,uZ,uZ,uZ,uZ,uZ,uZ,uZ,uZ,uZ,uZ,uZ,uZ,uZ,uZ,uZ,uZ,uZ,uZ,uZ,uZ,uZ,uZ,uZ,uZ,uZ,uZ,uZ,uZ,uZ,uZ,uZ,uZ,uZ,uZ,uZ,uZ,uZ,uZ,uZ,uZ,uZ,uZ,uZ,uZ,uZ,uZ,uZ,uZ,uZ,uZ,uZ,uZ,uZ,uZ,uZ,uZ,uZ,uZ,uZ,uZ,uZ,uZ,uZ,uZ,uZ,uZ,uZ,uZ,uZ,uZ,uZ,uZ,uZ,uZ,uZ,uZ,uZ,uZ,uZ,uZ,uZ,uZ,uZ,uZ,uZ,uZ,uZ,uZ,uZ,uZ,uZ,uZ,uZ,uZ,uZ,uZ,uZ,uZ,uZ,uZ,uZ,uZ,uZ,uZ,uZ,uZ,uZ,uZ,uZ,uZ,uZ,uZ,uZ,uZ,uZ,uZ,uZ,uZ,uZ,uZ,uZ,uZ,uZ,uZ,uZ,uZ,uZ,uZ,uZ,uZ,uZ,uZ,uZ,uZ,uZ,uZ,uZ,uZ,uZ,uZ,uZ,uZ,uZ,uZ,uZ,uZ,uZ,uZ,uZ,uZ,uZ,uZ,uZ,uZ,uZ,uZ,uZ]⟩,
 none,
 none,
 none,
 some ⟨.array 16 3,16,128,[iZ,iZ,iZ,iZ,iZ,iZ,iZ,iZ,iZ,iZ,iZ,iZ,iZ,iZ,iZ,iZ]⟩,
 some ⟨.array 10 321,160,1280,[iZ,iZ,iZ,iZ,iZ,iZ,iZ,iZ,iZ,iZ,iZ,iZ,iZ,iZ,iZ,iZ,iZ,iZ,iZ,iZ,iZ,iZ,iZ,iZ,iZ,iZ,iZ,iZ,iZ,iZ,iZ,iZ,iZ,iZ,iZ,iZ,iZ,iZ,iZ,iZ,iZ,iZ,iZ,iZ,iZ,iZ,iZ,iZ,iZ,iZ,iZ,iZ,iZ,iZ,iZ,iZ,iZ,iZ,iZ,iZ,iZ,iZ,iZ,iZ,iZ,iZ,iZ,iZ,iZ,iZ,iZ,iZ,iZ,iZ,iZ,iZ,iZ,iZ,iZ,iZ,iZ,iZ,iZ,iZ,iZ,iZ,iZ,iZ,iZ,iZ,iZ,iZ,iZ,iZ,iZ,iZ,iZ,iZ,iZ,iZ,iZ,iZ,iZ,iZ,iZ,iZ,iZ,iZ,iZ,iZ,iZ,iZ,iZ,iZ,iZ,iZ,iZ,iZ,iZ,iZ,iZ,iZ,iZ,iZ,iZ,iZ,iZ,iZ,iZ,iZ,iZ,iZ,iZ,iZ,iZ,iZ,iZ,iZ,iZ,iZ,iZ,iZ,iZ,iZ,iZ,iZ,iZ,iZ,iZ,iZ,iZ,iZ,iZ,iZ,iZ,iZ,iZ,iZ,iZ,iZ]⟩,
 none,
 some ⟨.array 4 3,4,32,[iZ,iZ,iZ,iZ]⟩,
 none,
 none,
 none,
 none,
 none,
 none,
 none,
 some ⟨.array 4 4,4,4,[bZ,bZ,bZ,bZ]⟩,
 none,
 none,
 none,
 none,
 none,
 none,
 some ⟨.ptr 313,1,8,[.pointer none]⟩,
 none,
 none,
 none,
 none,
 none,
 none,
 none,
 none,
 none,
 some ⟨.array 0 16,0,0,[]⟩,
 none,
 some ⟨.struct [(0,349)],0,0,[]⟩,
 none,
 some ⟨.int .u8,1,1,[uZ]⟩,
 some ⟨.int .u8,1,1,[uZ]⟩,
 tF,
 some ⟨.ptr 5,1,8,[.pointer none]⟩,
 some ⟨.int .i32,1,4,[.int .i32 0]⟩,
 some ⟨.int .i32,1,4,[.int .i32 0]⟩,
 none,
 some ⟨.struct [(0,12),(1,12),(2,277),(3,353),(4,5),(5,5),(6,354),(7,355),(8,356),(9,357),(10,358)],11,48,[.int .u64 0,.int .u64 0,wZ,uZ,uZ,uZ,uZ,.nilFunc,.pointer none,.int .i32 0,.int .i32 0]⟩]
def al_ : Tab := fun T => io_[T]?.bind id
def AllOk (P : Program) : Nat → List (Option TE) → Prop
 | _, [] => True
 | n, none :: l => AllOk P (n + 1) l
 | n, some e :: l => TyOk P n e ∧ AllOk P (n + 1) l
theorem AllOk.at {P : Program} : ∀ (l : List (Option TE)) (n i : Nat) (e : TE), AllOk P n l → l[i]? = some (some e) → TyOk P (n + i) e
 | [], _, _, _, _, h => by simp at h
 | none :: l, n, 0, _, _, h => by simp at h
 | none :: l, n, i + 1, e, h, hi => by have := AllOk.at l (n + 1) i e h (by simpa using hi); rwa [Nat.add_assoc, Nat.add_comm 1 i] at this
 | some d :: l, n, 0, e, h, hi => by simp at hi; subst hi; exact h.1
 | some d :: l, n, i + 1, e, h, hi => by have := AllOk.at l (n + 1) i e h.2 (by simpa using hi); rwa [Nat.add_assoc, Nat.add_comm 1 i] at this
@[simp] theorem Bv_ : al_ 1 = some ⟨.func,1,8,[.nilFunc]⟩ := rfl
@[simp] theorem Bu_ : al_ 2 = some ⟨.int .i64,1,8,[iZ]⟩ := rfl
@[simp] theorem ww_ : al_ 3 = some ⟨.int .i64,1,8,[iZ]⟩ := rfl
@[simp] theorem Bt_ : al_ 4 = some ⟨.bool,1,1,[bZ]⟩ := rfl
@[simp] theorem sH_ : al_ 5 = some ⟨.int .u8,1,1,[uZ]⟩ := rfl
@[simp] theorem Bs_ : al_ 6 = some ⟨.int .u8,1,1,[uZ]⟩ := rfl
@[simp] theorem Br_ : al_ 8 = some ⟨.struct [(0,2),(1,3),(2,4),(3,6)],4,24,[iZ,iZ,bZ,uZ]⟩ := rfl
@[simp] theorem Bq_ : al_ 9 = some ⟨.string,1,16,[sZ]⟩ := rfl
@[simp] theorem Ap_ : al_ 10 = some ⟨.string,1,16,[sZ]⟩ := rfl
@[simp] theorem Ao_ : al_ 12 = some ⟨.int .u64,1,8,[.int .u64 0]⟩ := rfl
@[simp] theorem An_ : al_ 13 = some ⟨.struct [(0,9),(1,12)],2,24,[sZ,.int .u64 0]⟩ := rfl
@[simp] theorem Am_ : al_ 16 = some ⟨.ptr 351,1,8,[.pointer none]⟩ := rfl
@[simp] theorem Al_ : al_ 17 = some ⟨.ptr 360,1,8,[.pointer none]⟩ := rfl
@[simp] theorem Ak_ : al_ 18 = some ⟨.struct [(0,17)],1,8,[.pointer none]⟩ := rfl
@[simp] theorem Aj_ : al_ 20 = some ⟨.iface,1,16,[.nilIface]⟩ := rfl
@[simp] theorem ud_ : al_ 22 = some ⟨.slice 104,1,24,[nZ]⟩ := rfl
@[simp] theorem uc_ : al_ 23 = some ⟨.slice 70,1,24,[nZ]⟩ := rfl
@[simp] theorem ub_ : al_ 25 = some ⟨.struct [(0,23)],1,24,[nZ]⟩ := rfl
@[simp] theorem Ai_ : al_ 26 = some ⟨.func,1,8,[.nilFunc]⟩ := rfl
@[simp] theorem Ah_ : al_ 29 = some ⟨.int .i64,1,8,[iZ]⟩ := rfl
@[simp] theorem Ag_ : al_ 32 = some ⟨.slice 63,1,24,[nZ]⟩ := rfl
@[simp] theorem Af_ : al_ 34 = some ⟨.func,1,8,[.nilFunc]⟩ := rfl
@[simp] theorem Ae_ : al_ 40 = some ⟨.struct [(0,3),(1,3),(2,3),(3,3),(4,3),(5,3),(6,3),(7,3)],8,64,[iZ,iZ,iZ,iZ,iZ,iZ,iZ,iZ]⟩ := rfl
@[simp] theorem Ad_ : al_ 41 = some ⟨.struct [(0,3),(1,3),(2,3),(3,3),(4,3),(5,3),(6,3),(7,3)],8,64,[iZ,iZ,iZ,iZ,iZ,iZ,iZ,iZ]⟩ := rfl
@[simp] theorem Ac_ : al_ 43 = some ⟨.struct [(0,3),(1,3),(2,3),(3,3)],4,32,[iZ,iZ,iZ,iZ]⟩ := rfl
@[simp] theorem Ab_ : al_ 45 = some ⟨.struct [(0,3),(1,3),(2,3),(3,3),(4,3)],5,40,[iZ,iZ,iZ,iZ,iZ]⟩ := rfl
@[simp] theorem Aa_ : al_ 47 = some ⟨.struct [(0,3),(1,3),(2,3),(3,3),(4,3),(5,3),(6,3),(7,3)],8,64,[iZ,iZ,iZ,iZ,iZ,iZ,iZ,iZ]⟩ := rfl
@[simp] theorem z9_ : al_ 49 = some ⟨.struct [(0,3),(1,3),(2,3),(3,3)],4,32,[iZ,iZ,iZ,iZ]⟩ := rfl
@[simp] theorem z8_ : al_ 51 = some ⟨.struct [(0,3),(1,3),(2,3),(3,3)],4,32,[iZ,iZ,iZ,iZ]⟩ := rfl
@[simp] theorem z7_ : al_ 52 = some ⟨.struct [(0,3),(1,3)],2,16,[iZ,iZ]⟩ := rfl
@[simp] theorem z6_ : al_ 53 = some ⟨.struct [(0,3),(1,3)],2,16,[iZ,iZ]⟩ := rfl
@[simp] theorem z5_ : al_ 55 = some ⟨.struct [(0,3),(1,3),(2,3),(3,3)],4,32,[iZ,iZ,iZ,iZ]⟩ := rfl
@[simp] theorem z4_ : al_ 57 = some ⟨.struct [(0,3),(1,3),(2,3),(3,3)],4,32,[iZ,iZ,iZ,iZ]⟩ := rfl
@[simp] theorem z3_ : al_ 59 = some ⟨.struct [(0,3),(1,3),(2,3),(3,3),(4,3),(5,3)],6,48,[iZ,iZ,iZ,iZ,iZ,iZ]⟩ := rfl
@[simp] theorem z2_ : al_ 61 = some ⟨.struct [(0,3),(1,4)],2,16,[iZ,bZ]⟩ := rfl
@[simp] theorem z1_ : al_ 63 = some ⟨.struct [(0,3),(1,3)],2,16,[iZ,iZ]⟩ := rfl
@[simp] theorem z0_ : al_ 64 = some ⟨.struct [(0,3),(1,3),(2,3),(3,3),(4,41),(12,43),(16,45),(21,47),(29,49),(33,51),(37,53),(39,55),(43,57),(47,59),(53,61),(55,63)],57,456,[iZ,iZ,iZ,iZ,iZ,iZ,iZ,iZ,iZ,iZ,iZ,iZ,iZ,iZ,iZ,iZ,iZ,iZ,iZ,iZ,iZ,iZ,iZ,iZ,iZ,iZ,iZ,iZ,iZ,iZ,iZ,iZ,iZ,iZ,iZ,iZ,iZ,iZ,iZ,iZ,iZ,iZ,iZ,iZ,iZ,iZ,iZ,iZ,iZ,iZ,iZ,iZ,iZ,iZ,bZ,iZ,iZ]⟩ := rfl
@[simp] theorem zZ_ : al_ 65 = some ⟨.struct [(0,3),(1,3),(2,3),(3,3),(4,41),(12,43),(16,45),(21,47),(29,49),(33,51),(37,53),(39,55),(43,57),(47,59),(53,61),(55,63)],57,456,[iZ,iZ,iZ,iZ,iZ,iZ,iZ,iZ,iZ,iZ,iZ,iZ,iZ,iZ,iZ,iZ,iZ,iZ,iZ,iZ,iZ,iZ,iZ,iZ,iZ,iZ,iZ,iZ,iZ,iZ,iZ,iZ,iZ,iZ,iZ,iZ,iZ,iZ,iZ,iZ,iZ,iZ,iZ,iZ,iZ,iZ,iZ,iZ,iZ,iZ,iZ,iZ,iZ,iZ,bZ,iZ,iZ]⟩ := rfl
@[simp] theorem pc_ : al_ 66 = some ⟨.slice 102,1,24,[nZ]⟩ := rfl
@[simp] theorem ua_ : al_ 68 = some ⟨.struct [(0,3),(1,66),(2,66),(3,66)],4,80,[iZ,nZ,nZ,nZ]⟩ := rfl
@[simp] theorem t9_ : al_ 70 = some ⟨.struct [(0,65),(57,68)],61,536,[iZ,iZ,iZ,iZ,iZ,iZ,iZ,iZ,iZ,iZ,iZ,iZ,iZ,iZ,iZ,iZ,iZ,iZ,iZ,iZ,iZ,iZ,iZ,iZ,iZ,iZ,iZ,iZ,iZ,iZ,iZ,iZ,iZ,iZ,iZ,iZ,iZ,iZ,iZ,iZ,iZ,iZ,iZ,iZ,iZ,iZ,iZ,iZ,iZ,iZ,iZ,iZ,iZ,iZ,bZ,iZ,iZ,iZ,nZ,nZ,nZ]⟩ := rfl
@[simp] theorem zY_ : al_ 74 = some ⟨.slice 5,1,24,[nZ]⟩ := rfl
@[simp] theorem zX_ : al_ 76 = some ⟨.struct [(0,74),(1,3),(2,3)],3,40,[nZ,iZ,iZ]⟩ := rfl
@[simp] theorem zW_ : al_ 81 = some ⟨.func,1,8,[.nilFunc]⟩ := rfl
@[simp] theorem zV_ : al_ 91 = some ⟨.func,1,8,[.nilFunc]⟩ := rfl
@[simp] theorem zU_ : al_ 92 = some ⟨.func,1,8,[.nilFunc]⟩ := rfl
@[simp] theorem fC_ : al_ 102 = some ⟨.array 32 5,32,32,[uZ,uZ,uZ,uZ,uZ,uZ,uZ,uZ,uZ,uZ,uZ,uZ,uZ,uZ,uZ,uZ,uZ,uZ,uZ,uZ,uZ,uZ,uZ,uZ,uZ,uZ,uZ,uZ,uZ,uZ,uZ,uZ]⟩ := rfl
@[simp] theorem sI_ : al_ 104 = some ⟨.struct [(0,102),(32,3)],33,40,[uZ,uZ,uZ,uZ,uZ,uZ,uZ,uZ,uZ,uZ,uZ,uZ,uZ,uZ,uZ,uZ,uZ,uZ,uZ,uZ,uZ,uZ,uZ,uZ,uZ,uZ,uZ,uZ,uZ,uZ,uZ,uZ,iZ]⟩ := rfl
@[simp] theorem zj_ : al_ 105 = some ⟨.slice 25,1,24,[nZ]⟩ := rfl
@[simp] theorem zi_ : al_ 108 = some ⟨.func,1,8,[.nilFunc]⟩ := rfl
@[simp] theorem zh_ : al_ 110 = some ⟨.map 63 4,1,8,[.map none]⟩ := rfl
@[simp] theorem zg_ : al_ 115 = some ⟨.slice 65,1,24,[nZ]⟩ := rfl
@[simp] theorem zf_ : al_ 121 = some ⟨.func,1,8,[.nilFunc]⟩ := rfl
@[simp] theorem ze_ : al_ 138 = some ⟨.func,1,8,[.nilFunc]⟩ := rfl
@[simp] theorem zd_ : al_ 157 = some ⟨.slice 3,1,24,[nZ]⟩ := rfl
@[simp] theorem zc_ : al_ 162 = some ⟨.slice 23,1,24,[nZ]⟩ := rfl
@[simp] theorem zb_ : al_ 164 = some ⟨.func,1,8,[.nilFunc]⟩ := rfl
@[simp] theorem za_ : al_ 170 = some ⟨.func,1,8,[.nilFunc]⟩ := rfl
@[simp] theorem y9_ : al_ 174 = some ⟨.int .u64,1,8,[.int .u64 0]⟩ := rfl
@[simp] theorem y8_ : al_ 185 = some ⟨.array 64 4,64,64,[bZ,bZ,bZ,bZ,bZ,bZ,bZ,bZ,bZ,bZ,bZ,bZ,bZ,bZ,bZ,bZ,bZ,bZ,bZ,bZ,bZ,bZ,bZ,bZ,bZ,bZ,bZ,bZ,bZ,bZ,bZ,bZ,bZ,bZ,bZ,bZ,bZ,bZ,bZ,bZ,bZ,bZ,bZ,bZ,bZ,bZ,bZ,bZ,bZ,bZ,bZ,bZ,bZ,bZ,bZ,bZ,bZ,bZ,bZ,bZ,bZ,bZ,bZ,bZ]⟩ := rfl
@[simp] theorem y7_ : al_ 187 = some ⟨.func,1,8,[.nilFunc]⟩ := rfl
@[simp] theorem y6_ : al_ 192 = some ⟨.slice 4,1,24,[nZ]⟩ := rfl
@[simp] theorem y5_ : al_ 205 = some ⟨.slice 207,1,24,[nZ]⟩ := rfl
@[simp] theorem y4_ : al_ 207 = some ⟨.struct [(0,3),(1,3),(2,9),(3,205)],4,56,[iZ,iZ,sZ,nZ]⟩ := rfl
@[simp] theorem y3_ : al_ 222 = some ⟨.slice 234,1,24,[nZ]⟩ := rfl
@[simp] theorem y2_ : al_ 224 = some ⟨.struct [(0,222),(1,26)],2,32,[nZ,.nilFunc]⟩ := rfl
@[simp] theorem y1_ : al_ 227 = some ⟨.ptr 65,1,8,[.pointer none]⟩ := rfl
@[simp] theorem y0_ : al_ 228 = some ⟨.ptr 3,1,8,[.pointer none]⟩ := rfl
@[simp] theorem yZ_ : al_ 230 = some ⟨.func,1,8,[.nilFunc]⟩ := rfl
@[simp] theorem yY_ : al_ 232 = some ⟨.struct [(0,3),(1,3)],2,16,[iZ,iZ]⟩ := rfl
@[simp] theorem yX_ : al_ 234 = some ⟨.struct [(0,228),(1,232)],3,24,[.pointer none,iZ,iZ]⟩ := rfl
@[simp] theorem yW_ : al_ 249 = some ⟨.func,1,8,[.nilFunc]⟩ := rfl
@[simp] theorem yV_ : al_ 251 = some ⟨.struct [(0,249)],1,8,[.nilFunc]⟩ := rfl
@[simp] theorem yU_ : al_ 252 = some ⟨.ptr 297,1,8,[.pointer none]⟩ := rfl
@[simp] theorem yT_ : al_ 265 = some ⟨.ptr 41,1,8,[.pointer none]⟩ := rfl
@[simp] theorem yS_ : al_ 266 = some ⟨.ptr 43,1,8,[.pointer none]⟩ := rfl
@[simp] theorem yR_ : al_ 267 = some ⟨.ptr 45,1,8,[.pointer none]⟩ := rfl
@[simp] theorem yQ_ : al_ 268 = some ⟨.ptr 47,1,8,[.pointer none]⟩ := rfl
@[simp] theorem yP_ : al_ 269 = some ⟨.ptr 49,1,8,[.pointer none]⟩ := rfl
@[simp] theorem yO_ : al_ 270 = some ⟨.ptr 51,1,8,[.pointer none]⟩ := rfl
@[simp] theorem yN_ : al_ 271 = some ⟨.ptr 53,1,8,[.pointer none]⟩ := rfl
@[simp] theorem yM_ : al_ 272 = some ⟨.ptr 55,1,8,[.pointer none]⟩ := rfl
@[simp] theorem yL_ : al_ 273 = some ⟨.ptr 57,1,8,[.pointer none]⟩ := rfl
@[simp] theorem yK_ : al_ 274 = some ⟨.ptr 59,1,8,[.pointer none]⟩ := rfl
@[simp] theorem yJ_ : al_ 275 = some ⟨.slice 74,1,24,[nZ]⟩ := rfl
@[simp] theorem yI_ : al_ 277 = some ⟨.int .u32,1,4,[wZ]⟩ := rfl
@[simp] theorem yH_ : al_ 278 = some ⟨.array 8 277,8,32,[wZ,wZ,wZ,wZ,wZ,wZ,wZ,wZ]⟩ := rfl
@[simp] theorem yG_ : al_ 279 = some ⟨.int .u64,1,8,[.int .u64 0]⟩ := rfl
@[simp] theorem yF_ : al_ 281 = some ⟨.ptr 278,1,8,[.pointer none]⟩ := rfl
@[simp] theorem yE_ : al_ 297 = some ⟨.array 4 251,4,32,[.nilFunc,.nilFunc,.nilFunc,.nilFunc]⟩ := rfl
@[simp] theorem yD_ : al_ 312 = some ⟨.array 16 277,16,64,[wZ,wZ,wZ,wZ,wZ,wZ,wZ,wZ,wZ,wZ,wZ,wZ,wZ,wZ,wZ,wZ]⟩ := rfl
@[simp] theorem yC_ : al_ 313 = some ⟨.array 16 277,16,64,[wZ,wZ,wZ,wZ,wZ,wZ,wZ,wZ,wZ,wZ,wZ,wZ,wZ,wZ,wZ,wZ]⟩ := rfl
@[simp] theorem yB_ : al_ 314 = some ⟨.slice 277,1,24,[nZ]⟩ := rfl
@[simp] theorem yA_ : al_ 315 = some ⟨.func,1,8,[.nilFunc]⟩ := rfl
@[simp] theorem yz_ : al_ 316 = some ⟨.array 16 5,16,16,[uZ,uZ,uZ,uZ,uZ,uZ,uZ,uZ,uZ,uZ,uZ,uZ,uZ,uZ,uZ,uZ]⟩ := rfl
@[simp] theorem yy_ : al_ 317 = some ⟨.array 10 316,160,160,[uZ,uZ,uZ,uZ,uZ,uZ,uZ,uZ,uZ,uZ,uZ,uZ,uZ,uZ,uZ,uZ,uZ,uZ,uZ,uZ,uZ,uZ,uZ,uZ,uZ,uZ,uZ,uZ,uZ,uZ,uZ,uZ,uZ,uZ,uZ,uZ,uZ,uZ,uZ,uZ,uZ,uZ,uZ,uZ,uZ,uZ,uZ,uZ,uZ,uZ,uZ,uZ,uZ,uZ,uZ,uZ,uZ,uZ,uZ,uZ,uZ,uZ,uZ,uZ,uZ,uZ,uZ,uZ,uZ,uZ,uZ,uZ,uZ,uZ,uZ,uZ,uZ,uZ,uZ,uZ,uZ,uZ,uZ,uZ,uZ,uZ,uZ,uZ,uZ,uZ,uZ,uZ,uZ,uZ,uZ,uZ,uZ,uZ,uZ,uZ,uZ,uZ,uZ,uZ,uZ,uZ,uZ,uZ,uZ,uZ,uZ,uZ,uZ,uZ,uZ,uZ,uZ,uZ,uZ,uZ,uZ,uZ,uZ,uZ,uZ,uZ,uZ,uZ,uZ,uZ,uZ,uZ,uZ,uZ,uZ,uZ,uZ,uZ,uZ,uZ,uZ,uZ,uZ,uZ,uZ,uZ,uZ,uZ,uZ,uZ,uZ,uZ,uZ,uZ,uZ,uZ,uZ,uZ,uZ,uZ]⟩ := rfl
@[simp] theorem yx_ : al_ 321 = some ⟨.array 16 3,16,128,[iZ,iZ,iZ,iZ,iZ,iZ,iZ,iZ,iZ,iZ,iZ,iZ,iZ,iZ,iZ,iZ]⟩ := rfl
@[simp] theorem yw_ : al_ 322 = some ⟨.array 10 321,160,1280,[iZ,iZ,iZ,iZ,iZ,iZ,iZ,iZ,iZ,iZ,iZ,iZ,iZ,iZ,iZ,iZ,iZ,iZ,iZ,iZ,iZ,iZ,iZ,iZ,iZ,iZ,iZ,iZ,iZ,iZ,iZ,iZ,iZ,iZ,iZ,iZ,iZ,iZ,iZ,iZ,iZ,iZ,iZ,iZ,iZ,iZ,iZ,iZ,iZ,iZ,iZ,iZ,iZ,iZ,iZ,iZ,iZ,iZ,iZ,iZ,iZ,iZ,iZ,iZ,iZ,iZ,iZ,iZ,iZ,iZ,iZ,iZ,iZ,iZ,iZ,iZ,iZ,iZ,iZ,iZ,iZ,iZ,iZ,iZ,iZ,iZ,iZ,iZ,iZ,iZ,iZ,iZ,iZ,iZ,iZ,iZ,iZ,iZ,iZ,iZ,iZ,iZ,iZ,iZ,iZ,iZ,iZ,iZ,iZ,iZ,iZ,iZ,iZ,iZ,iZ,iZ,iZ,iZ,iZ,iZ,iZ,iZ,iZ,iZ,iZ,iZ,iZ,iZ,iZ,iZ,iZ,iZ,iZ,iZ,iZ,iZ,iZ,iZ,iZ,iZ,iZ,iZ,iZ,iZ,iZ,iZ,iZ,iZ,iZ,iZ,iZ,iZ,iZ,iZ,iZ,iZ,iZ,iZ,iZ,iZ]⟩ := rfl
@[simp] theorem yv_ : al_ 324 = some ⟨.array 4 3,4,32,[iZ,iZ,iZ,iZ]⟩ := rfl
@[simp] theorem yu_ : al_ 332 = some ⟨.array 4 4,4,4,[bZ,bZ,bZ,bZ]⟩ := rfl
@[simp] theorem yt_ : al_ 339 = some ⟨.ptr 313,1,8,[.pointer none]⟩ := rfl
@[simp] theorem ys_ : al_ 349 = some ⟨.array 0 16,0,0,[]⟩ := rfl
@[simp] theorem yr_ : al_ 351 = some ⟨.struct [(0,349)],0,0,[]⟩ := rfl
@[simp] theorem yq_ : al_ 353 = some ⟨.int .u8,1,1,[uZ]⟩ := rfl
@[simp] theorem yp_ : al_ 354 = some ⟨.int .u8,1,1,[uZ]⟩ := rfl
@[simp] theorem yo_ : al_ 355 = some ⟨.func,1,8,[.nilFunc]⟩ := rfl
@[simp] theorem yn_ : al_ 356 = some ⟨.ptr 5,1,8,[.pointer none]⟩ := rfl
@[simp] theorem ym_ : al_ 357 = some ⟨.int .i32,1,4,[.int .i32 0]⟩ := rfl
@[simp] theorem yl_ : al_ 358 = some ⟨.int .i32,1,4,[.int .i32 0]⟩ := rfl
@[simp] theorem yk_ : al_ 360 = some ⟨.struct [(0,12),(1,12),(2,277),(3,353),(4,5),(5,5),(6,354),(7,355),(8,356),(9,357),(10,358)],11,48,[.int .u64 0,.int .u64 0,wZ,uZ,uZ,uZ,uZ,.nilFunc,.pointer none,.int .i32 0,.int .i32 0]⟩ := rfl
set_option maxRecDepth 100000 in
/-- A type's entry is right, by looking. -/
theorem tyS {P : Program} {T : Nat} {e : TE} (i : TypeInfo) {d : TypeDesc} (hu : P.underlying T = some d) (hk : e.k.ok d := by first | rfl | exact ⟨_, rfl, rfl⟩ | exact ⟨_, _, _, rfl⟩ | exact ⟨_, rfl⟩) (hi : P.info? T = some i := by kernel_rfl)
  (h : ∃ z, i.size = e.size ∧ i.bytes = e.bytes ∧ i.zero = some z ∧ z.cells.toList = e.zero ∧ e.zero.length = e.size ∧ e.zero.all (·.oneCell') = true := by exact ⟨_, rfl, rfl, rfl, rfl, rfl, rfl⟩) : TyOk P T e := ⟨⟨i, h.choose, hi, h.choose_spec⟩, ⟨d, hu, hk⟩⟩
set_option maxRecDepth 20000 in
theorem aa_ : as_ Tryz.prog al_ := by
 intro T e h
 have hL : AllOk Tryz.prog 0 io_ := by
  unfold io_
  refine ⟨tyS Tryz.t1 Tryz.underlying1, ?_⟩
  refine ⟨tyS Tryz.t2 Tryz.underlying2, ?_⟩
  refine ⟨tyS Tryz.t3 Tryz.underlying3, ?_⟩
  refine ⟨tyS Tryz.t4 Tryz.underlying4, ?_⟩
  refine ⟨tyS Tryz.t5 Tryz.underlying5, ?_⟩
  refine ⟨tyS Tryz.t6 Tryz.underlying6, ?_⟩
  refine ⟨tyS Tryz.t8 Tryz.underlying8, ?_⟩
  refine ⟨tyS Tryz.t9 Tryz.underlying9, ?_⟩
  refine ⟨tyS Tryz.t10 Tryz.underlying10, ?_⟩
  refine ⟨tyS Tryz.t12 Tryz.underlying12, ?_⟩
  refine ⟨tyS Tryz.t13 Tryz.underlying13, ?_⟩
  refine ⟨tyS Tryz.t16 Tryz.underlying16, ?_⟩
  refine ⟨tyS Tryz.t17 Tryz.underlying17, ?_⟩
  refine ⟨tyS Tryz.t18 Tryz.underlying18, ?_⟩
  refine ⟨tyS Tryz.t20 Tryz.underlying20, ?_⟩
  refine ⟨tyS Tryz.t22 Tryz.underlying22, ?_⟩
  refine ⟨tyS Tryz.t23 Tryz.underlying23, ?_⟩
  refine ⟨tyS Tryz.t25 Tryz.underlying25, ?_⟩
  refine ⟨tyS Tryz.t26 Tryz.underlying26, ?_⟩
  refine ⟨tyS Tryz.t29 Tryz.underlying29, ?_⟩
  refine ⟨tyS Tryz.t32 Tryz.underlying32, ?_⟩
  refine ⟨tyS Tryz.t34 Tryz.underlying34, ?_⟩
  refine ⟨tyS Tryz.t40 Tryz.underlying40, ?_⟩
  refine ⟨tyS Tryz.t41 Tryz.underlying41, ?_⟩
  refine ⟨tyS Tryz.t43 Tryz.underlying43, ?_⟩
  refine ⟨tyS Tryz.t45 Tryz.underlying45, ?_⟩
  refine ⟨tyS Tryz.t47 Tryz.underlying47, ?_⟩
  refine ⟨tyS Tryz.t49 Tryz.underlying49, ?_⟩
  refine ⟨tyS Tryz.t51 Tryz.underlying51, ?_⟩
  refine ⟨tyS Tryz.t52 Tryz.underlying52, ?_⟩
  refine ⟨tyS Tryz.t53 Tryz.underlying53, ?_⟩
  refine ⟨tyS Tryz.t55 Tryz.underlying55, ?_⟩
  refine ⟨tyS Tryz.t57 Tryz.underlying57, ?_⟩
  refine ⟨tyS Tryz.t59 Tryz.underlying59, ?_⟩
  refine ⟨tyS Tryz.t61 Tryz.underlying61, ?_⟩
  refine ⟨tyS Tryz.t63 Tryz.underlying63, ?_⟩
  refine ⟨tyS Tryz.t64 Tryz.underlying64, ?_⟩
  refine ⟨tyS Tryz.t65 Tryz.underlying65, ?_⟩
  refine ⟨tyS Tryz.t66 Tryz.underlying66, ?_⟩
  refine ⟨tyS Tryz.t68 Tryz.underlying68, ?_⟩
  refine ⟨tyS Tryz.t70 Tryz.underlying70, ?_⟩
  refine ⟨tyS Tryz.t74 Tryz.underlying74, ?_⟩
  refine ⟨tyS Tryz.t76 Tryz.underlying76, ?_⟩
  refine ⟨tyS Tryz.t81 Tryz.underlying81, ?_⟩
  refine ⟨tyS Tryz.t91 Tryz.underlying91, ?_⟩
  refine ⟨tyS Tryz.t92 Tryz.underlying92, ?_⟩
  refine ⟨tyS Tryz.t102 Tryz.underlying102, ?_⟩
  refine ⟨tyS Tryz.t104 Tryz.underlying104, ?_⟩
  refine ⟨tyS Tryz.t105 Tryz.underlying105, ?_⟩
  refine ⟨tyS Tryz.t108 Tryz.underlying108, ?_⟩
  refine ⟨tyS Tryz.t110 Tryz.underlying110, ?_⟩
  refine ⟨tyS Tryz.t115 Tryz.underlying115, ?_⟩
  refine ⟨tyS Tryz.t121 Tryz.underlying121, ?_⟩
  refine ⟨tyS Tryz.t138 Tryz.underlying138, ?_⟩
  refine ⟨tyS Tryz.t157 Tryz.underlying157, ?_⟩
  refine ⟨tyS Tryz.t162 Tryz.underlying162, ?_⟩
  refine ⟨tyS Tryz.t164 Tryz.underlying164, ?_⟩
  refine ⟨tyS Tryz.t170 Tryz.underlying170, ?_⟩
  refine ⟨tyS Tryz.t174 Tryz.underlying174, ?_⟩
  refine ⟨tyS Tryz.t185 Tryz.underlying185, ?_⟩
  refine ⟨tyS Tryz.t187 Tryz.underlying187, ?_⟩
  refine ⟨tyS Tryz.t192 Tryz.underlying192, ?_⟩
  refine ⟨tyS Tryz.t205 Tryz.underlying205, ?_⟩
  refine ⟨tyS Tryz.t207 Tryz.underlying207, ?_⟩
  refine ⟨tyS Tryz.t222 Tryz.underlying222, ?_⟩
  refine ⟨tyS Tryz.t224 Tryz.underlying224, ?_⟩
  refine ⟨tyS Tryz.t227 Tryz.underlying227, ?_⟩
  refine ⟨tyS Tryz.t228 Tryz.underlying228, ?_⟩
  refine ⟨tyS Tryz.t230 Tryz.underlying230, ?_⟩
  refine ⟨tyS Tryz.t232 Tryz.underlying232, ?_⟩
  refine ⟨tyS Tryz.t234 Tryz.underlying234, ?_⟩
  refine ⟨tyS Tryz.t249 Tryz.underlying249, ?_⟩
  refine ⟨tyS Tryz.t251 Tryz.underlying251, ?_⟩
  refine ⟨tyS Tryz.t252 Tryz.underlying252, ?_⟩
  refine ⟨tyS Tryz.t265 Tryz.underlying265, ?_⟩
  refine ⟨tyS Tryz.t266 Tryz.underlying266, ?_⟩
  refine ⟨tyS Tryz.t267 Tryz.underlying267, ?_⟩
  refine ⟨tyS Tryz.t268 Tryz.underlying268, ?_⟩
  refine ⟨tyS Tryz.t269 Tryz.underlying269, ?_⟩
  refine ⟨tyS Tryz.t270 Tryz.underlying270, ?_⟩
  refine ⟨tyS Tryz.t271 Tryz.underlying271, ?_⟩
  refine ⟨tyS Tryz.t272 Tryz.underlying272, ?_⟩
  refine ⟨tyS Tryz.t273 Tryz.underlying273, ?_⟩
  refine ⟨tyS Tryz.t274 Tryz.underlying274, ?_⟩
  refine ⟨tyS Tryz.t275 Tryz.underlying275, ?_⟩
  refine ⟨tyS Tryz.t277 Tryz.underlying277, ?_⟩
  refine ⟨tyS Tryz.t278 Tryz.underlying278, ?_⟩
  refine ⟨tyS Tryz.t279 Tryz.underlying279, ?_⟩
  refine ⟨tyS Tryz.t281 Tryz.underlying281, ?_⟩
  refine ⟨tyS Tryz.t297 Tryz.underlying297, ?_⟩
  refine ⟨tyS Tryz.t312 Tryz.underlying312, ?_⟩
  refine ⟨tyS Tryz.t313 Tryz.underlying313, ?_⟩
  refine ⟨tyS Tryz.t314 Tryz.underlying314, ?_⟩
  refine ⟨tyS Tryz.t315 Tryz.underlying315, ?_⟩
  refine ⟨tyS Tryz.t316 Tryz.underlying316, ?_⟩
  refine ⟨tyS Tryz.t317 Tryz.underlying317, ?_⟩
  refine ⟨tyS Tryz.t321 Tryz.underlying321, ?_⟩
  refine ⟨tyS Tryz.t322 Tryz.underlying322, ?_⟩
  refine ⟨tyS Tryz.t324 Tryz.underlying324, ?_⟩
  refine ⟨tyS Tryz.t332 Tryz.underlying332, ?_⟩
  refine ⟨tyS Tryz.t339 Tryz.underlying339, ?_⟩
  refine ⟨tyS Tryz.t349 Tryz.underlying349, ?_⟩
  refine ⟨tyS Tryz.t351 Tryz.underlying351, ?_⟩
  refine ⟨tyS Tryz.t353 Tryz.underlying353, ?_⟩
  refine ⟨tyS Tryz.t354 Tryz.underlying354, ?_⟩
  refine ⟨tyS Tryz.t355 Tryz.underlying355, ?_⟩
  refine ⟨tyS Tryz.t356 Tryz.underlying356, ?_⟩
  refine ⟨tyS Tryz.t357 Tryz.underlying357, ?_⟩
  refine ⟨tyS Tryz.t358 Tryz.underlying358, ?_⟩
  refine ⟨tyS Tryz.t360 Tryz.underlying360, ?_⟩
  exact trivial
 unfold al_ at h
 have h2 : io_[T]? = some (some e) := by
  cases ht : io_[T]? with
  | none => rw [ht] at h; cases h
  | some x => rw [ht] at h; exact congrArg some h
 have := AllOk.at _ 0 T e hL h2
 rwa [Nat.zero_add] at this
theorem ga_ : Tryz.prog.follows .mixedOrders = true := by kernel_rfl
theorem n7_ : Body Tryz.prog 14 := ⟨Tryz.f14, _, Tryz.func14, rfl, by kernel_rfl⟩
theorem n6_ : Body Tryz.prog 17 := ⟨Tryz.f17, _, Tryz.func17, rfl, by kernel_rfl⟩
theorem eR_ : Body Tryz.prog 18 := ⟨Tryz.f18, _, Tryz.func18, rfl, by kernel_rfl⟩
theorem n5_ : Body Tryz.prog 19 := ⟨Tryz.f19, _, Tryz.func19, rfl, by kernel_rfl⟩
theorem iw_ : Body Tryz.prog 20 := ⟨Tryz.f20, _, Tryz.func20, rfl, by kernel_rfl⟩
theorem cr_ : Body Tryz.prog 21 := ⟨Tryz.f21, _, Tryz.func21, rfl, by kernel_rfl⟩
theorem eQ_ : Body Tryz.prog 22 := ⟨Tryz.f22, _, Tryz.func22, rfl, by kernel_rfl⟩
theorem n4_ : Body Tryz.prog 23 := ⟨Tryz.f23, _, Tryz.func23, rfl, by kernel_rfl⟩
theorem n3_ : Body Tryz.prog 24 := ⟨Tryz.f24, _, Tryz.func24, rfl, by kernel_rfl⟩
theorem n2_ : Body Tryz.prog 25 := ⟨Tryz.f25, _, Tryz.func25, rfl, by kernel_rfl⟩
theorem n1_ : Body Tryz.prog 31 := ⟨Tryz.f31, _, Tryz.func31, rfl, by kernel_rfl⟩
theorem bl_ : Body Tryz.prog 33 := ⟨Tryz.f33, _, Tryz.func33, rfl, by kernel_rfl⟩
theorem eP_ : Body Tryz.prog 34 := ⟨Tryz.f34, _, Tryz.func34, rfl, by kernel_rfl⟩
theorem cq_ : Body Tryz.prog 35 := ⟨Tryz.f35, _, Tryz.func35, rfl, by kernel_rfl⟩
theorem iv_ : Body Tryz.prog 36 := ⟨Tryz.f36, _, Tryz.func36, rfl, by kernel_rfl⟩
theorem eO_ : Body Tryz.prog 39 := ⟨Tryz.f39, _, Tryz.func39, rfl, by kernel_rfl⟩
theorem n0_ : Body Tryz.prog 47 := ⟨Tryz.f47, _, Tryz.func47, rfl, by kernel_rfl⟩
theorem cp_ : Body Tryz.prog 52 := ⟨Tryz.f52, _, Tryz.func52, rfl, by kernel_rfl⟩
theorem dj_ : Body Tryz.prog 53 := ⟨Tryz.f53, _, Tryz.func53, rfl, by kernel_rfl⟩
theorem co_ : Body Tryz.prog 54 := ⟨Tryz.f54, _, Tryz.func54, rfl, by kernel_rfl⟩
theorem nZ_ : Body Tryz.prog 55 := ⟨Tryz.f55, _, Tryz.func55, rfl, by kernel_rfl⟩
theorem nY_ : Body Tryz.prog 56 := ⟨Tryz.f56, _, Tryz.func56, rfl, by kernel_rfl⟩
theorem di_ : Body Tryz.prog 57 := ⟨Tryz.f57, _, Tryz.func57, rfl, by kernel_rfl⟩
theorem iu_ : Body Tryz.prog 58 := ⟨Tryz.f58, _, Tryz.func58, rfl, by kernel_rfl⟩
theorem cn_ : Body Tryz.prog 59 := ⟨Tryz.f59, _, Tryz.func59, rfl, by kernel_rfl⟩
theorem it_ : Body Tryz.prog 60 := ⟨Tryz.f60, _, Tryz.func60, rfl, by kernel_rfl⟩
theorem is_ : Body Tryz.prog 61 := ⟨Tryz.f61, _, Tryz.func61, rfl, by kernel_rfl⟩
theorem nX_ : Body Tryz.prog 62 := ⟨Tryz.f62, _, Tryz.func62, rfl, by kernel_rfl⟩
theorem nW_ : Body Tryz.prog 63 := ⟨Tryz.f63, _, Tryz.func63, rfl, by kernel_rfl⟩
theorem eN_ : Body Tryz.prog 64 := ⟨Tryz.f64, _, Tryz.func64, rfl, by kernel_rfl⟩
theorem eM_ : Body Tryz.prog 65 := ⟨Tryz.f65, _, Tryz.func65, rfl, by kernel_rfl⟩
theorem bF_ : Body Tryz.prog 66 := ⟨Tryz.f66, _, Tryz.func66, rfl, by kernel_rfl⟩
theorem dh_ : Body Tryz.prog 69 := ⟨Tryz.f69, _, Tryz.func69, rfl, by kernel_rfl⟩
theorem nV_ : Body Tryz.prog 71 := ⟨Tryz.f71, _, Tryz.func71, rfl, by kernel_rfl⟩
theorem ir_ : Body Tryz.prog 72 := ⟨Tryz.f72, _, Tryz.func72, rfl, by kernel_rfl⟩
theorem nU_ : Body Tryz.prog 74 := ⟨Tryz.f74, _, Tryz.func74, rfl, by kernel_rfl⟩
theorem dg_ : Body Tryz.prog 75 := ⟨Tryz.f75, _, Tryz.func75, rfl, by kernel_rfl⟩
theorem nT_ : Body Tryz.prog 76 := ⟨Tryz.f76, _, Tryz.func76, rfl, by kernel_rfl⟩
theorem iq_ : Body Tryz.prog 78 := ⟨Tryz.f78, _, Tryz.func78, rfl, by kernel_rfl⟩
theorem nS_ : Body Tryz.prog 79 := ⟨Tryz.f79, _, Tryz.func79, rfl, by kernel_rfl⟩
theorem nR_ : Body Tryz.prog 80 := ⟨Tryz.f80, _, Tryz.func80, rfl, by kernel_rfl⟩
theorem nQ_ : Body Tryz.prog 81 := ⟨Tryz.f81, _, Tryz.func81, rfl, by kernel_rfl⟩
theorem nP_ : Body Tryz.prog 84 := ⟨Tryz.f84, _, Tryz.func84, rfl, by kernel_rfl⟩
theorem eL_ : Body Tryz.prog 85 := ⟨Tryz.f85, _, Tryz.func85, rfl, by kernel_rfl⟩
theorem eK_ : Body Tryz.prog 86 := ⟨Tryz.f86, _, Tryz.func86, rfl, by kernel_rfl⟩
theorem nO_ : Body Tryz.prog 87 := ⟨Tryz.f87, _, Tryz.func87, rfl, by kernel_rfl⟩
theorem nN_ : Body Tryz.prog 96 := ⟨Tryz.f96, _, Tryz.func96, rfl, by kernel_rfl⟩
theorem gU_ : Body Tryz.prog 100 := ⟨Tryz.f100, _, Tryz.func100, rfl, by kernel_rfl⟩
theorem gT_ : Body Tryz.prog 101 := ⟨Tryz.f101, _, Tryz.func101, rfl, by kernel_rfl⟩
theorem dV_ : Body Tryz.prog 102 := ⟨Tryz.f102, _, Tryz.func102, rfl, by kernel_rfl⟩
theorem dU_ : Body Tryz.prog 103 := ⟨Tryz.f103, _, Tryz.func103, rfl, by kernel_rfl⟩
theorem gS_ : Body Tryz.prog 104 := ⟨Tryz.f104, _, Tryz.func104, rfl, by kernel_rfl⟩
theorem dT_ : Body Tryz.prog 105 := ⟨Tryz.f105, _, Tryz.func105, rfl, by kernel_rfl⟩
theorem gR_ : Body Tryz.prog 111 := ⟨Tryz.f111, _, Tryz.func111, rfl, by kernel_rfl⟩
theorem mG_ : Body Tryz.prog 113 := ⟨Tryz.f113, _, Tryz.func113, rfl, by kernel_rfl⟩
theorem bt_ : Body Tryz.prog 116 := ⟨Tryz.f116, _, Tryz.func116, rfl, by kernel_rfl⟩
theorem gQ_ : Body Tryz.prog 117 := ⟨Tryz.f117, _, Tryz.func117, rfl, by kernel_rfl⟩
theorem gP_ : Body Tryz.prog 118 := ⟨Tryz.f118, _, Tryz.func118, rfl, by kernel_rfl⟩
theorem ar_ : Body Tryz.prog 119 := ⟨Tryz.f119, _, Tryz.func119, rfl, by kernel_rfl⟩
theorem mF_ : Body Tryz.prog 120 := ⟨Tryz.f120, _, Tryz.func120, rfl, by kernel_rfl⟩
theorem mE_ : Body Tryz.prog 121 := ⟨Tryz.f121, _, Tryz.func121, rfl, by kernel_rfl⟩
theorem mD_ : Body Tryz.prog 123 := ⟨Tryz.f123, _, Tryz.func123, rfl, by kernel_rfl⟩
theorem gO_ : Body Tryz.prog 126 := ⟨Tryz.f126, _, Tryz.func126, rfl, by kernel_rfl⟩
theorem dS_ : Body Tryz.prog 128 := ⟨Tryz.f128, _, Tryz.func128, rfl, by kernel_rfl⟩
theorem bs_ : Body Tryz.prog 129 := ⟨Tryz.f129, _, Tryz.func129, rfl, by kernel_rfl⟩
theorem dR_ : Body Tryz.prog 130 := ⟨Tryz.f130, _, Tryz.func130, rfl, by kernel_rfl⟩
theorem gN_ : Body Tryz.prog 131 := ⟨Tryz.f131, _, Tryz.func131, rfl, by kernel_rfl⟩
theorem mC_ : Body Tryz.prog 132 := ⟨Tryz.f132, _, Tryz.func132, rfl, by kernel_rfl⟩
theorem mB_ : Body Tryz.prog 133 := ⟨Tryz.f133, _, Tryz.func133, rfl, by kernel_rfl⟩
theorem mA_ : Body Tryz.prog 134 := ⟨Tryz.f134, _, Tryz.func134, rfl, by kernel_rfl⟩
theorem mz_ : Body Tryz.prog 135 := ⟨Tryz.f135, _, Tryz.func135, rfl, by kernel_rfl⟩
theorem my_ : Body Tryz.prog 136 := ⟨Tryz.f136, _, Tryz.func136, rfl, by kernel_rfl⟩
theorem mx_ : Body Tryz.prog 137 := ⟨Tryz.f137, _, Tryz.func137, rfl, by kernel_rfl⟩
theorem gM_ : Body Tryz.prog 142 := ⟨Tryz.f142, _, Tryz.func142, rfl, by kernel_rfl⟩
theorem mw_ : Body Tryz.prog 143 := ⟨Tryz.f143, _, Tryz.func143, rfl, by kernel_rfl⟩
theorem gL_ : Body Tryz.prog 159 := ⟨Tryz.f159, _, Tryz.func159, rfl, by kernel_rfl⟩
theorem gK_ : Body Tryz.prog 160 := ⟨Tryz.f160, _, Tryz.func160, rfl, by kernel_rfl⟩
theorem gJ_ : Body Tryz.prog 161 := ⟨Tryz.f161, _, Tryz.func161, rfl, by kernel_rfl⟩
theorem mv_ : Body Tryz.prog 163 := ⟨Tryz.f163, _, Tryz.func163, rfl, by kernel_rfl⟩
theorem mu_ : Body Tryz.prog 164 := ⟨Tryz.f164, _, Tryz.func164, rfl, by kernel_rfl⟩
theorem gI_ : Body Tryz.prog 165 := ⟨Tryz.f165, _, Tryz.func165, rfl, by kernel_rfl⟩
theorem bP_ : Body Tryz.prog 166 := ⟨Tryz.f166, _, Tryz.func166, rfl, by kernel_rfl⟩
theorem gH_ : Body Tryz.prog 167 := ⟨Tryz.f167, _, Tryz.func167, rfl, by kernel_rfl⟩
theorem cD_ : Body Tryz.prog 168 := ⟨Tryz.f168, _, Tryz.func168, rfl, by kernel_rfl⟩
theorem dQ_ : Body Tryz.prog 170 := ⟨Tryz.f170, _, Tryz.func170, rfl, by kernel_rfl⟩
theorem mt_ : Body Tryz.prog 171 := ⟨Tryz.f171, _, Tryz.func171, rfl, by kernel_rfl⟩
theorem gG_ : Body Tryz.prog 172 := ⟨Tryz.f172, _, Tryz.func172, rfl, by kernel_rfl⟩
theorem ms_ : Body Tryz.prog 173 := ⟨Tryz.f173, _, Tryz.func173, rfl, by kernel_rfl⟩
theorem bO_ : Body Tryz.prog 174 := ⟨Tryz.f174, _, Tryz.func174, rfl, by kernel_rfl⟩
theorem bN_ : Body Tryz.prog 175 := ⟨Tryz.f175, _, Tryz.func175, rfl, by kernel_rfl⟩
theorem gF_ : Body Tryz.prog 176 := ⟨Tryz.f176, _, Tryz.func176, rfl, by kernel_rfl⟩
theorem aI_ : Body Tryz.prog 177 := ⟨Tryz.f177, _, Tryz.func177, rfl, by kernel_rfl⟩
theorem mr_ : Body Tryz.prog 178 := ⟨Tryz.f178, _, Tryz.func178, rfl, by kernel_rfl⟩
theorem a3_ : Body Tryz.prog 179 := ⟨Tryz.f179, _, Tryz.func179, rfl, by kernel_rfl⟩
theorem bM_ : Body Tryz.prog 180 := ⟨Tryz.f180, _, Tryz.func180, rfl, by kernel_rfl⟩
theorem cC_ : Body Tryz.prog 181 := ⟨Tryz.f181, _, Tryz.func181, rfl, by kernel_rfl⟩
theorem mq_ : Body Tryz.prog 182 := ⟨Tryz.f182, _, Tryz.func182, rfl, by kernel_rfl⟩
theorem mp_ : Body Tryz.prog 183 := ⟨Tryz.f183, _, Tryz.func183, rfl, by kernel_rfl⟩
theorem dP_ : Body Tryz.prog 184 := ⟨Tryz.f184, _, Tryz.func184, rfl, by kernel_rfl⟩
theorem gE_ : Body Tryz.prog 185 := ⟨Tryz.f185, _, Tryz.func185, rfl, by kernel_rfl⟩
theorem mo_ : Body Tryz.prog 187 := ⟨Tryz.f187, _, Tryz.func187, rfl, by kernel_rfl⟩
theorem mn_ : Body Tryz.prog 188 := ⟨Tryz.f188, _, Tryz.func188, rfl, by kernel_rfl⟩
theorem mm_ : Body Tryz.prog 189 := ⟨Tryz.f189, _, Tryz.func189, rfl, by kernel_rfl⟩
theorem gD_ : Body Tryz.prog 190 := ⟨Tryz.f190, _, Tryz.func190, rfl, by kernel_rfl⟩
theorem cB_ : Body Tryz.prog 191 := ⟨Tryz.f191, _, Tryz.func191, rfl, by kernel_rfl⟩
theorem dO_ : Body Tryz.prog 192 := ⟨Tryz.f192, _, Tryz.func192, rfl, by kernel_rfl⟩
theorem ml_ : Body Tryz.prog 194 := ⟨Tryz.f194, _, Tryz.func194, rfl, by kernel_rfl⟩
theorem mk_ : Body Tryz.prog 195 := ⟨Tryz.f195, _, Tryz.func195, rfl, by kernel_rfl⟩
theorem dN_ : Body Tryz.prog 196 := ⟨Tryz.f196, _, Tryz.func196, rfl, by kernel_rfl⟩
theorem gC_ : Body Tryz.prog 204 := ⟨Tryz.f204, _, Tryz.func204, rfl, by kernel_rfl⟩
theorem gB_ : Body Tryz.prog 205 := ⟨Tryz.f205, _, Tryz.func205, rfl, by kernel_rfl⟩
theorem gA_ : Body Tryz.prog 206 := ⟨Tryz.f206, _, Tryz.func206, rfl, by kernel_rfl⟩
theorem gz_ : Body Tryz.prog 207 := ⟨Tryz.f207, _, Tryz.func207, rfl, by kernel_rfl⟩
theorem gy_ : Body Tryz.prog 208 := ⟨Tryz.f208, _, Tryz.func208, rfl, by kernel_rfl⟩
theorem mj_ : Body Tryz.prog 211 := ⟨Tryz.f211, _, Tryz.func211, rfl, by kernel_rfl⟩
theorem mi_ : Body Tryz.prog 212 := ⟨Tryz.f212, _, Tryz.func212, rfl, by kernel_rfl⟩
theorem mh_ : Body Tryz.prog 213 := ⟨Tryz.f213, _, Tryz.func213, rfl, by kernel_rfl⟩
theorem mg_ : Body Tryz.prog 214 := ⟨Tryz.f214, _, Tryz.func214, rfl, by kernel_rfl⟩
theorem mf_ : Body Tryz.prog 215 := ⟨Tryz.f215, _, Tryz.func215, rfl, by kernel_rfl⟩
theorem me_ : Body Tryz.prog 216 := ⟨Tryz.f216, _, Tryz.func216, rfl, by kernel_rfl⟩
theorem gx_ : Body Tryz.prog 217 := ⟨Tryz.f217, _, Tryz.func217, rfl, by kernel_rfl⟩
theorem md_ : Body Tryz.prog 218 := ⟨Tryz.f218, _, Tryz.func218, rfl, by kernel_rfl⟩
theorem gw_ : Body Tryz.prog 219 := ⟨Tryz.f219, _, Tryz.func219, rfl, by kernel_rfl⟩
theorem mc_ : Body Tryz.prog 220 := ⟨Tryz.f220, _, Tryz.func220, rfl, by kernel_rfl⟩
theorem gv_ : Body Tryz.prog 221 := ⟨Tryz.f221, _, Tryz.func221, rfl, by kernel_rfl⟩
theorem gu_ : Body Tryz.prog 222 := ⟨Tryz.f222, _, Tryz.func222, rfl, by kernel_rfl⟩
theorem mb_ : Body Tryz.prog 232 := ⟨Tryz.f232, _, Tryz.func232, rfl, by kernel_rfl⟩
theorem gt_ : Body Tryz.prog 233 := ⟨Tryz.f233, _, Tryz.func233, rfl, by kernel_rfl⟩
theorem gs_ : Body Tryz.prog 234 := ⟨Tryz.f234, _, Tryz.func234, rfl, by kernel_rfl⟩
theorem dM_ : Body Tryz.prog 235 := ⟨Tryz.f235, _, Tryz.func235, rfl, by kernel_rfl⟩
theorem ma_ : Body Tryz.prog 236 := ⟨Tryz.f236, _, Tryz.func236, rfl, by kernel_rfl⟩
theorem gr_ : Body Tryz.prog 237 := ⟨Tryz.f237, _, Tryz.func237, rfl, by kernel_rfl⟩
theorem gq_ : Body Tryz.prog 238 := ⟨Tryz.f238, _, Tryz.func238, rfl, by kernel_rfl⟩
theorem gp_ : Body Tryz.prog 257 := ⟨Tryz.f257, _, Tryz.func257, rfl, by kernel_rfl⟩
theorem a2_ : Body Tryz.prog 259 := ⟨Tryz.f259, _, Tryz.func259, rfl, by kernel_rfl⟩
theorem go_ : Body Tryz.prog 260 := ⟨Tryz.f260, _, Tryz.func260, rfl, by kernel_rfl⟩
theorem gn_ : Body Tryz.prog 261 := ⟨Tryz.f261, _, Tryz.func261, rfl, by kernel_rfl⟩
theorem cA_ : Body Tryz.prog 262 := ⟨Tryz.f262, _, Tryz.func262, rfl, by kernel_rfl⟩
theorem l9_ : Body Tryz.prog 263 := ⟨Tryz.f263, _, Tryz.func263, rfl, by kernel_rfl⟩
theorem l8_ : Body Tryz.prog 264 := ⟨Tryz.f264, _, Tryz.func264, rfl, by kernel_rfl⟩
theorem l7_ : Body Tryz.prog 265 := ⟨Tryz.f265, _, Tryz.func265, rfl, by kernel_rfl⟩
theorem gm_ : Body Tryz.prog 277 := ⟨Tryz.f277, _, Tryz.func277, rfl, by kernel_rfl⟩
theorem cz_ : Body Tryz.prog 280 := ⟨Tryz.f280, _, Tryz.func280, rfl, by kernel_rfl⟩
theorem cy_ : Body Tryz.prog 281 := ⟨Tryz.f281, _, Tryz.func281, rfl, by kernel_rfl⟩
instance : Glob := ⟨fun
 | 12 => some [.v (.int .u32 1779033703), .v (.int .u32 3144134277), .v (.int .u32 1013904242), .v (.int .u32 2773480762), .v (.int .u32 1359893119), .v (.int .u32 2600822924), .v (.int .u32 528734635), .v (.int .u32 1541459225)]
 | 13 => some [.v (.int .u8 0), .v (.int .u8 1), .v (.int .u8 2), .v (.int .u8 3), .v (.int .u8 4), .v (.int .u8 5), .v (.int .u8 6), .v (.int .u8 7), .v (.int .u8 8), .v (.int .u8 9), .v (.int .u8 10), .v (.int .u8 11), .v (.int .u8 12), .v (.int .u8 13), .v (.int .u8 14), .v (.int .u8 15), .v (.int .u8 14), .v (.int .u8 10), .v (.int .u8 4), .v (.int .u8 8), .v (.int .u8 9), .v (.int .u8 15), .v (.int .u8 13), .v (.int .u8 6), .v (.int .u8 1), .v (.int .u8 12), .v (.int .u8 0), .v (.int .u8 2), .v (.int .u8 11), .v (.int .u8 7), .v (.int .u8 5), .v (.int .u8 3), .v (.int .u8 11), .v (.int .u8 8), .v (.int .u8 12), .v (.int .u8 0), .v (.int .u8 5), .v (.int .u8 2), .v (.int .u8 15), .v (.int .u8 13), .v (.int .u8 10), .v (.int .u8 14), .v (.int .u8 3), .v (.int .u8 6), .v (.int .u8 7), .v (.int .u8 1), .v (.int .u8 9), .v (.int .u8 4), .v (.int .u8 7), .v (.int .u8 9), .v (.int .u8 3), .v (.int .u8 1), .v (.int .u8 13), .v (.int .u8 12), .v (.int .u8 11), .v (.int .u8 14), .v (.int .u8 2), .v (.int .u8 6), .v (.int .u8 5), .v (.int .u8 10), .v (.int .u8 4), .v (.int .u8 0), .v (.int .u8 15), .v (.int .u8 8), .v (.int .u8 9), .v (.int .u8 0), .v (.int .u8 5), .v (.int .u8 7), .v (.int .u8 2), .v (.int .u8 4), .v (.int .u8 10), .v (.int .u8 15), .v (.int .u8 14), .v (.int .u8 1), .v (.int .u8 11), .v (.int .u8 12), .v (.int .u8 6), .v (.int .u8 8), .v (.int .u8 3), .v (.int .u8 13), .v (.int .u8 2), .v (.int .u8 12), .v (.int .u8 6), .v (.int .u8 10), .v (.int .u8 0), .v (.int .u8 11), .v (.int .u8 8), .v (.int .u8 3), .v (.int .u8 4), .v (.int .u8 13), .v (.int .u8 7), .v (.int .u8 5), .v (.int .u8 15), .v (.int .u8 14), .v (.int .u8 1), .v (.int .u8 9), .v (.int .u8 12), .v (.int .u8 5), .v (.int .u8 1), .v (.int .u8 15), .v (.int .u8 14), .v (.int .u8 13), .v (.int .u8 4), .v (.int .u8 10), .v (.int .u8 0), .v (.int .u8 7), .v (.int .u8 6), .v (.int .u8 3), .v (.int .u8 9), .v (.int .u8 2), .v (.int .u8 8), .v (.int .u8 11), .v (.int .u8 13), .v (.int .u8 11), .v (.int .u8 7), .v (.int .u8 14), .v (.int .u8 12), .v (.int .u8 1), .v (.int .u8 3), .v (.int .u8 9), .v (.int .u8 5), .v (.int .u8 0), .v (.int .u8 15), .v (.int .u8 4), .v (.int .u8 8), .v (.int .u8 6), .v (.int .u8 2), .v (.int .u8 10), .v (.int .u8 6), .v (.int .u8 15), .v (.int .u8 14), .v (.int .u8 9), .v (.int .u8 11), .v (.int .u8 3), .v (.int .u8 0), .v (.int .u8 8), .v (.int .u8 12), .v (.int .u8 2), .v (.int .u8 13), .v (.int .u8 7), .v (.int .u8 1), .v (.int .u8 4), .v (.int .u8 10), .v (.int .u8 5), .v (.int .u8 10), .v (.int .u8 2), .v (.int .u8 8), .v (.int .u8 4), .v (.int .u8 7), .v (.int .u8 6), .v (.int .u8 1), .v (.int .u8 5), .v (.int .u8 15), .v (.int .u8 11), .v (.int .u8 9), .v (.int .u8 14), .v (.int .u8 3), .v (.int .u8 12), .v (.int .u8 13), .v (.int .u8 0)]
 | 2 => some [.v (.int .i64 (-1099511627776)), .v (.int .i64 1099511627776)]
 | 6 => some [.v (.int .i64 0), .v (.int .i64 1099511627776)]
 | 1 => some [.v (.int .i64 1), .v (.int .i64 9999)]
 | 4 => some [.v (.int .i64 0), .v (.int .i64 39)]
 | 5 => some [.v (.int .i64 0), .v (.int .i64 255)]
 | 3 => some [.v (.int .i64 0), .v (.int .i64 1048576)]
 | 7 => some [.v (.int .i64 0), .v (.int .i64 255)]
 | 8 => some [.v (.int .i64 1), .v (.int .i64 1048576)]
 | 10 => some [.v (.int .i64 0), .v (.int .i64 31)]
 | 11 => some [.v (.int .i64 1), .v (.int .i64 1048576)]
 | 9 => some [.v (.int .i64 0), .v (.int .i64 1)]
 | _ => none⟩
@[simp] theorem wx_ : (Glob.laid 12 : Option (List D)) = some [.v (.int .u32 1779033703), .v (.int .u32 3144134277), .v (.int .u32 1013904242), .v (.int .u32 2773480762), .v (.int .u32 1359893119), .v (.int .u32 2600822924), .v (.int .u32 528734635), .v (.int .u32 1541459225)] := rfl
@[simp] theorem nM_ : (Glob.laid 13 : Option (List D)) = some [.v (.int .u8 0), .v (.int .u8 1), .v (.int .u8 2), .v (.int .u8 3), .v (.int .u8 4), .v (.int .u8 5), .v (.int .u8 6), .v (.int .u8 7), .v (.int .u8 8), .v (.int .u8 9), .v (.int .u8 10), .v (.int .u8 11), .v (.int .u8 12), .v (.int .u8 13), .v (.int .u8 14), .v (.int .u8 15), .v (.int .u8 14), .v (.int .u8 10), .v (.int .u8 4), .v (.int .u8 8), .v (.int .u8 9), .v (.int .u8 15), .v (.int .u8 13), .v (.int .u8 6), .v (.int .u8 1), .v (.int .u8 12), .v (.int .u8 0), .v (.int .u8 2), .v (.int .u8 11), .v (.int .u8 7), .v (.int .u8 5), .v (.int .u8 3), .v (.int .u8 11), .v (.int .u8 8), .v (.int .u8 12), .v (.int .u8 0), .v (.int .u8 5), .v (.int .u8 2), .v (.int .u8 15), .v (.int .u8 13), .v (.int .u8 10), .v (.int .u8 14), .v (.int .u8 3), .v (.int .u8 6), .v (.int .u8 7), .v (.int .u8 1), .v (.int .u8 9), .v (.int .u8 4), .v (.int .u8 7), .v (.int .u8 9), .v (.int .u8 3), .v (.int .u8 1), .v (.int .u8 13), .v (.int .u8 12), .v (.int .u8 11), .v (.int .u8 14), .v (.int .u8 2), .v (.int .u8 6), .v (.int .u8 5), .v (.int .u8 10), .v (.int .u8 4), .v (.int .u8 0), .v (.int .u8 15), .v (.int .u8 8), .v (.int .u8 9), .v (.int .u8 0), .v (.int .u8 5), .v (.int .u8 7), .v (.int .u8 2), .v (.int .u8 4), .v (.int .u8 10), .v (.int .u8 15), .v (.int .u8 14), .v (.int .u8 1), .v (.int .u8 11), .v (.int .u8 12), .v (.int .u8 6), .v (.int .u8 8), .v (.int .u8 3), .v (.int .u8 13), .v (.int .u8 2), .v (.int .u8 12), .v (.int .u8 6), .v (.int .u8 10), .v (.int .u8 0), .v (.int .u8 11), .v (.int .u8 8), .v (.int .u8 3), .v (.int .u8 4), .v (.int .u8 13), .v (.int .u8 7), .v (.int .u8 5), .v (.int .u8 15), .v (.int .u8 14), .v (.int .u8 1), .v (.int .u8 9), .v (.int .u8 12), .v (.int .u8 5), .v (.int .u8 1), .v (.int .u8 15), .v (.int .u8 14), .v (.int .u8 13), .v (.int .u8 4), .v (.int .u8 10), .v (.int .u8 0), .v (.int .u8 7), .v (.int .u8 6), .v (.int .u8 3), .v (.int .u8 9), .v (.int .u8 2), .v (.int .u8 8), .v (.int .u8 11), .v (.int .u8 13), .v (.int .u8 11), .v (.int .u8 7), .v (.int .u8 14), .v (.int .u8 12), .v (.int .u8 1), .v (.int .u8 3), .v (.int .u8 9), .v (.int .u8 5), .v (.int .u8 0), .v (.int .u8 15), .v (.int .u8 4), .v (.int .u8 8), .v (.int .u8 6), .v (.int .u8 2), .v (.int .u8 10), .v (.int .u8 6), .v (.int .u8 15), .v (.int .u8 14), .v (.int .u8 9), .v (.int .u8 11), .v (.int .u8 3), .v (.int .u8 0), .v (.int .u8 8), .v (.int .u8 12), .v (.int .u8 2), .v (.int .u8 13), .v (.int .u8 7), .v (.int .u8 1), .v (.int .u8 4), .v (.int .u8 10), .v (.int .u8 5), .v (.int .u8 10), .v (.int .u8 2), .v (.int .u8 8), .v (.int .u8 4), .v (.int .u8 7), .v (.int .u8 6), .v (.int .u8 1), .v (.int .u8 5), .v (.int .u8 15), .v (.int .u8 11), .v (.int .u8 9), .v (.int .u8 14), .v (.int .u8 3), .v (.int .u8 12), .v (.int .u8 13), .v (.int .u8 0)] := rfl
@[simp] theorem wZ_ : (Glob.laid 2 : Option (List D)) = some [.v (.int .i64 (-1099511627776)), .v (.int .i64 1099511627776)] := rfl
@[simp] theorem wV_ : (Glob.laid 6 : Option (List D)) = some [.v (.int .i64 0), .v (.int .i64 1099511627776)] := rfl
@[simp] theorem w0_ : (Glob.laid 1 : Option (List D)) = some [.v (.int .i64 1), .v (.int .i64 9999)] := rfl
@[simp] theorem wX_ : (Glob.laid 4 : Option (List D)) = some [.v (.int .i64 0), .v (.int .i64 39)] := rfl
@[simp] theorem wW_ : (Glob.laid 5 : Option (List D)) = some [.v (.int .i64 0), .v (.int .i64 255)] := rfl
@[simp] theorem wY_ : (Glob.laid 3 : Option (List D)) = some [.v (.int .i64 0), .v (.int .i64 1048576)] := rfl
@[simp] theorem wU_ : (Glob.laid 7 : Option (List D)) = some [.v (.int .i64 0), .v (.int .i64 255)] := rfl
@[simp] theorem wT_ : (Glob.laid 8 : Option (List D)) = some [.v (.int .i64 1), .v (.int .i64 1048576)] := rfl
@[simp] theorem wz_ : (Glob.laid 10 : Option (List D)) = some [.v (.int .i64 0), .v (.int .i64 31)] := rfl
@[simp] theorem wy_ : (Glob.laid 11 : Option (List D)) = some [.v (.int .i64 1), .v (.int .i64 1048576)] := rfl
@[simp] theorem wS_ : (Glob.laid 9 : Option (List D)) = some [.v (.int .i64 0), .v (.int .i64 1)] := rfl
end Go.Proofs.YtnljenjcaeophaaGreatDoor

namespace Go.Proofs.YtnljenjcaeophaaGreatDoor
open Go.Xe
/-- Of two claims the first by the usual means. -/
theorem aI {p q : Prop} (hq : q) (hp : p := by first | rfl | omega | decide | (simp; done) | (simp; omega) | (intro _ h; exact fcs_side h; done) | (intros; simp_all; done) | (intros; simp_all; omega)) : p ∧ q := ⟨hp, hq⟩
/-- One step into a code of a told form. -/
class Gn (P : Program) (ds : Dn) (pn : Pn) (c : Code) (Q : Exit → St → Prop) (S : St) (G : outParam Prop) : Prop where
 go : G → WP P ds pn c Q S
instance (P : Program) (ds : Dn) (pn : Pn) (Q : Exit → St → Prop) (S : St) (x y : Code) : Gn P ds pn (.seq x y) Q S (WP P ds pn x (zx_ P ds pn y Q) S) := ⟨WP.seq⟩
instance (P : Program) (ds : Dn) (pn : Pn) (Q : Exit → St → Prop) (S : St) (id : Nat) (c : Code) : Gn P ds pn (.block id c) Q S (WP P ds pn c (zT_ id Q) S) := ⟨WP.block⟩
theorem wG {P : Program} {ds : Dn} {pn : Pn} {c : Code} {Q : Exit → St → Prop} {S : St} {G : Prop} [i : Gn P ds pn c Q S G] (g : G) : WP P ds pn c Q S := i.go g
theorem wR {ds : Dn} {pn : Pn} {Q : Exit → St → Prop} {S : St} {id : Nat} {l : List Oper} {b : Bool} (h : vcOps Tryz.prog ds pn al_ (l.map (·.dst)) (fun tis S' => (b = true → by_ S (tis.flatMap fun t => t.e.add)) ∧ (b = true → f6_ (pn.zs.map (·.1)) (l.map (·.dst)) l (tis.map TI.ts) = true) ∧ Q .normal S') l S []) : WP Tryz.prog ds pn (.region id l.toArray b) Q S := by
 cases b with
 | false =>
  refine WP.region aa_ ?_
  have e : (fun (tis : List TI) (S' : St) => (false = true → by_ S (tis.flatMap fun t => t.e.add)) ∧ (false = true → f6_ (pn.zs.map (·.1)) (l.map (·.dst)) l (tis.map TI.ts) = true) ∧ Q .normal S') = fun _ S' => Q .normal S' := by funext tis S'; simp
  rwa [e] at h
 | true =>
  refine sB_ aa_ ga_ ?_
  have e : (fun (tis : List TI) (S' : St) => (true = true → by_ S (tis.flatMap fun t => t.e.add)) ∧ (true = true → f6_ (pn.zs.map (·.1)) (l.map (·.dst)) l (tis.map TI.ts) = true) ∧ Q .normal S') = fun tis S' => by_ S (tis.flatMap fun t => t.e.add) ∧ f6_ (pn.zs.map (·.1)) (l.map (·.dst)) l (tis.map TI.ts) = true ∧ Q .normal S' := by funext tis S'; simp
  rwa [e] at h
theorem cF {ds : Dn} {pn : Pn} {Q : Exit → St → Prop} {S : St} {o : Operand} {x y : Code} (he : S.ev o = .d (.v (.bool false))) (h : WP Tryz.prog ds pn y Q S) : WP Tryz.prog ds pn (.cond o x y) Q S := WP.cond (b := false) he (fun h => by cases h) (fun _ => h)
theorem cT {ds : Dn} {pn : Pn} {Q : Exit → St → Prop} {S : St} {o : Operand} {x y : Code} (he : S.ev o = .d (.v (.bool true))) (h : WP Tryz.prog ds pn x Q S) : WP Tryz.prog ds pn (.cond o x y) Q S := WP.cond (b := true) he (fun _ => h) (fun h => by cases h)
end Go.Proofs.YtnljenjcaeophaaGreatDoor
