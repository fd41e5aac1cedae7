/-
  The types of the seat, for the engine. Printed by seatgen.py.
-/
import Derived.Test.YtphbappgmoojeaaRows
import Derived.Test.YtphbappgmoojeaaK3
set_option linter.unusedVariables false
set_option linter.unusedSimpArgs false
set_option linter.unusedSectionVars false
namespace Go.Proofs.Ytphbappgmoojeaa
open Go.Xe

def Try.τ : Tab := fun T => match T with
  | 1 => some ⟨.func, 1, 8, [.nilFunc]⟩
  | 2 => some ⟨.int .i64, 1, 8, [.int .i64 0]⟩
  | 3 => some ⟨.int .i64, 1, 8, [.int .i64 0]⟩
  | 4 => some ⟨.bool, 1, 1, [.bool false]⟩
  | 5 => some ⟨.int .u8, 1, 1, [.int .u8 0]⟩
  | 6 => some ⟨.int .u8, 1, 1, [.int .u8 0]⟩
  | 7 => some ⟨.struct [(0, 2), (1, 3), (2, 4), (3, 6)], 4, 24, [.int .i64 0, .int .i64 0, .bool false, .int .u8 0]⟩
  | 8 => some ⟨.struct [(0, 2), (1, 3), (2, 4), (3, 6)], 4, 24, [.int .i64 0, .int .i64 0, .bool false, .int .u8 0]⟩
  | 9 => some ⟨.string, 1, 16, [.string { data := #[] }]⟩
  | 10 => some ⟨.string, 1, 16, [.string { data := #[] }]⟩
  | 11 => some ⟨.string, 1, 16, [.string { data := #[] }]⟩
  | 12 => some ⟨.int .u64, 1, 8, [.int .u64 0]⟩
  | 13 => some ⟨.struct [(0, 9), (1, 12)], 2, 24, [.string { data := #[] }, .int .u64 0]⟩
  | 14 => some ⟨.struct [(0, 9), (1, 12)], 2, 24, [.string { data := #[] }, .int .u64 0]⟩
  | 15 => some ⟨.ptr 97, 1, 8, [.pointer none]⟩
  | 16 => some ⟨.ptr 100, 1, 8, [.pointer none]⟩
  | 17 => some ⟨.ptr 109, 1, 8, [.pointer none]⟩
  | 18 => some ⟨.struct [(0, 17)], 1, 8, [.pointer none]⟩
  | 19 => some ⟨.struct [(0, 17)], 1, 8, [.pointer none]⟩
  | 20 => some ⟨.iface, 1, 16, [.nilIface]⟩
  | 21 => some ⟨.int .i32, 1, 4, [.int .i32 0]⟩
  | 22 => some ⟨.slice 37, 1, 24, [.slice none 0 0]⟩
  | 23 => some ⟨.func, 1, 8, [.nilFunc]⟩
  | 24 => some ⟨.func, 1, 8, [.nilFunc]⟩
  | 25 => some ⟨.int .i64, 1, 8, [.int .i64 0]⟩
  | 27 => some ⟨.func, 1, 8, [.nilFunc]⟩
  | 28 => some ⟨.func, 1, 8, [.nilFunc]⟩
  | 29 => some ⟨.func, 1, 8, [.nilFunc]⟩
  | 31 => some ⟨.func, 1, 8, [.nilFunc]⟩
  | 32 => some ⟨.func, 1, 8, [.nilFunc]⟩
  | 33 => some ⟨.int .u64, 1, 8, [.int .u64 0]⟩
  | 34 => some ⟨.func, 1, 8, [.nilFunc]⟩
  | 35 => some ⟨.func, 1, 8, [.nilFunc]⟩
  | 36 => some ⟨.struct [(0, 3), (1, 3)], 2, 16, [.int .i64 0, .int .i64 0]⟩
  | 37 => some ⟨.struct [(0, 3), (1, 3)], 2, 16, [.int .i64 0, .int .i64 0]⟩
  | 38 => some ⟨.func, 1, 8, [.nilFunc]⟩
  | 39 => some ⟨.func, 1, 8, [.nilFunc]⟩
  | 40 => some ⟨.func, 1, 8, [.nilFunc]⟩
  | 41 => some ⟨.func, 1, 8, [.nilFunc]⟩
  | 42 => some ⟨.func, 1, 8, [.nilFunc]⟩
  | 43 => some ⟨.func, 1, 8, [.nilFunc]⟩
  | 44 => some ⟨.slice 3, 1, 24, [.slice none 0 0]⟩
  | 45 => some ⟨.func, 1, 8, [.nilFunc]⟩
  | 46 => some ⟨.func, 1, 8, [.nilFunc]⟩
  | 47 => some ⟨.func, 1, 8, [.nilFunc]⟩
  | 48 => some ⟨.func, 1, 8, [.nilFunc]⟩
  | 49 => some ⟨.func, 1, 8, [.nilFunc]⟩
  | 50 => some ⟨.func, 1, 8, [.nilFunc]⟩
  | 51 => some ⟨.func, 1, 8, [.nilFunc]⟩
  | 52 => some ⟨.func, 1, 8, [.nilFunc]⟩
  | 53 => some ⟨.func, 1, 8, [.nilFunc]⟩
  | 54 => some ⟨.func, 1, 8, [.nilFunc]⟩
  | 55 => some ⟨.func, 1, 8, [.nilFunc]⟩
  | 56 => some ⟨.func, 1, 8, [.nilFunc]⟩
  | 57 => some ⟨.slice 22, 1, 24, [.slice none 0 0]⟩
  | 58 => some ⟨.func, 1, 8, [.nilFunc]⟩
  | 59 => some ⟨.func, 1, 8, [.nilFunc]⟩
  | 60 => some ⟨.func, 1, 8, [.nilFunc]⟩
  | 61 => some ⟨.func, 1, 8, [.nilFunc]⟩
  | 62 => some ⟨.func, 1, 8, [.nilFunc]⟩
  | 63 => some ⟨.func, 1, 8, [.nilFunc]⟩
  | 64 => some ⟨.func, 1, 8, [.nilFunc]⟩
  | 65 => some ⟨.func, 1, 8, [.nilFunc]⟩
  | 66 => some ⟨.func, 1, 8, [.nilFunc]⟩
  | 67 => some ⟨.func, 1, 8, [.nilFunc]⟩
  | 68 => some ⟨.func, 1, 8, [.nilFunc]⟩
  | 69 => some ⟨.func, 1, 8, [.nilFunc]⟩
  | 70 => some ⟨.func, 1, 8, [.nilFunc]⟩
  | 71 => some ⟨.func, 1, 8, [.nilFunc]⟩
  | 72 => some ⟨.func, 1, 8, [.nilFunc]⟩
  | 73 => some ⟨.func, 1, 8, [.nilFunc]⟩
  | 74 => some ⟨.func, 1, 8, [.nilFunc]⟩
  | 75 => some ⟨.int .i64, 1, 8, [.int .i64 0]⟩
  | 77 => some ⟨.func, 1, 8, [.nilFunc]⟩
  | 78 => some ⟨.func, 1, 8, [.nilFunc]⟩
  | 79 => some ⟨.func, 1, 8, [.nilFunc]⟩
  | 81 => some ⟨.func, 1, 8, [.nilFunc]⟩
  | 82 => some ⟨.func, 1, 8, [.nilFunc]⟩
  | 83 => some ⟨.int .u32, 1, 4, [.int .u32 0]⟩
  | 84 => some ⟨.func, 1, 8, [.nilFunc]⟩
  | 85 => some ⟨.int .u64, 1, 8, [.int .u64 0]⟩
  | 86 => some ⟨.int .u64, 1, 8, [.int .u64 0]⟩
  | 87 => some ⟨.func, 1, 8, [.nilFunc]⟩
  | 88 => some ⟨.func, 1, 8, [.nilFunc]⟩
  | 89 => some ⟨.func, 1, 8, [.nilFunc]⟩
  | 90 => some ⟨.ptr 3, 1, 8, [.pointer none]⟩
  | 91 => some ⟨.func, 1, 8, [.nilFunc]⟩
  | 92 => some ⟨.ptr 86, 1, 8, [.pointer none]⟩
  | 94 => some ⟨.func, 1, 8, [.nilFunc]⟩
  | 95 => some ⟨.func, 1, 8, [.nilFunc]⟩
  | 96 => some ⟨.struct [(0, 17), (1, 17), (2, 17), (3, 9)], 4, 40, [.pointer none, .pointer none, .pointer none, .string { data := #[] }]⟩
  | 97 => some ⟨.struct [(0, 17), (1, 17), (2, 17), (3, 9)], 4, 40, [.pointer none, .pointer none, .pointer none, .string { data := #[] }]⟩
  | 98 => some ⟨.array 0 16, 0, 0, []⟩
  | 99 => some ⟨.struct [(0, 98)], 0, 0, []⟩
  | 100 => some ⟨.struct [(0, 98)], 0, 0, []⟩
  | 101 => some ⟨.func, 1, 8, [.nilFunc]⟩
  | 102 => some ⟨.int .u8, 1, 1, [.int .u8 0]⟩
  | 103 => some ⟨.int .u8, 1, 1, [.int .u8 0]⟩
  | 104 => some ⟨.func, 1, 8, [.nilFunc]⟩
  | 105 => some ⟨.ptr 5, 1, 8, [.pointer none]⟩
  | 106 => some ⟨.int .i32, 1, 4, [.int .i32 0]⟩
  | 107 => some ⟨.int .i32, 1, 4, [.int .i32 0]⟩
  | 108 => some ⟨.struct [(0, 12), (1, 12), (2, 83), (3, 102), (4, 5), (5, 5), (6, 103), (7, 104), (8, 105), (9, 106), (10, 107)], 11, 48, [.int .u64 0, .int .u64 0, .int .u32 0, .int .u8 0, .int .u8 0, .int .u8 0, .int .u8 0, .nilFunc, .pointer none, .int .i32 0, .int .i32 0]⟩
  | 109 => some ⟨.struct [(0, 12), (1, 12), (2, 83), (3, 102), (4, 5), (5, 5), (6, 103), (7, 104), (8, 105), (9, 106), (10, 107)], 11, 48, [.int .u64 0, .int .u64 0, .int .u32 0, .int .u8 0, .int .u8 0, .int .u8 0, .int .u8 0, .nilFunc, .pointer none, .int .i32 0, .int .i32 0]⟩
  | _ => none

@[simp] theorem Try.τ1 : Try.τ 1 = some ⟨.func, 1, 8, [.nilFunc]⟩ := rfl
@[simp] theorem Try.τ2 : Try.τ 2 = some ⟨.int .i64, 1, 8, [.int .i64 0]⟩ := rfl
@[simp] theorem Try.τ3 : Try.τ 3 = some ⟨.int .i64, 1, 8, [.int .i64 0]⟩ := rfl
@[simp] theorem Try.τ4 : Try.τ 4 = some ⟨.bool, 1, 1, [.bool false]⟩ := rfl
@[simp] theorem Try.τ5 : Try.τ 5 = some ⟨.int .u8, 1, 1, [.int .u8 0]⟩ := rfl
@[simp] theorem Try.τ6 : Try.τ 6 = some ⟨.int .u8, 1, 1, [.int .u8 0]⟩ := rfl
@[simp] theorem Try.τ7 : Try.τ 7 = some ⟨.struct [(0, 2), (1, 3), (2, 4), (3, 6)], 4, 24, [.int .i64 0, .int .i64 0, .bool false, .int .u8 0]⟩ := rfl
@[simp] theorem Try.τ8 : Try.τ 8 = some ⟨.struct [(0, 2), (1, 3), (2, 4), (3, 6)], 4, 24, [.int .i64 0, .int .i64 0, .bool false, .int .u8 0]⟩ := rfl
@[simp] theorem Try.τ9 : Try.τ 9 = some ⟨.string, 1, 16, [.string { data := #[] }]⟩ := rfl
@[simp] theorem Try.τ10 : Try.τ 10 = some ⟨.string, 1, 16, [.string { data := #[] }]⟩ := rfl
@[simp] theorem Try.τ11 : Try.τ 11 = some ⟨.string, 1, 16, [.string { data := #[] }]⟩ := rfl
@[simp] theorem Try.τ12 : Try.τ 12 = some ⟨.int .u64, 1, 8, [.int .u64 0]⟩ := rfl
@[simp] theorem Try.τ13 : Try.τ 13 = some ⟨.struct [(0, 9), (1, 12)], 2, 24, [.string { data := #[] }, .int .u64 0]⟩ := rfl
@[simp] theorem Try.τ14 : Try.τ 14 = some ⟨.struct [(0, 9), (1, 12)], 2, 24, [.string { data := #[] }, .int .u64 0]⟩ := rfl
@[simp] theorem Try.τ15 : Try.τ 15 = some ⟨.ptr 97, 1, 8, [.pointer none]⟩ := rfl
@[simp] theorem Try.τ16 : Try.τ 16 = some ⟨.ptr 100, 1, 8, [.pointer none]⟩ := rfl
@[simp] theorem Try.τ17 : Try.τ 17 = some ⟨.ptr 109, 1, 8, [.pointer none]⟩ := rfl
@[simp] theorem Try.τ18 : Try.τ 18 = some ⟨.struct [(0, 17)], 1, 8, [.pointer none]⟩ := rfl
@[simp] theorem Try.τ19 : Try.τ 19 = some ⟨.struct [(0, 17)], 1, 8, [.pointer none]⟩ := rfl
@[simp] theorem Try.τ20 : Try.τ 20 = some ⟨.iface, 1, 16, [.nilIface]⟩ := rfl
@[simp] theorem Try.τ21 : Try.τ 21 = some ⟨.int .i32, 1, 4, [.int .i32 0]⟩ := rfl
@[simp] theorem Try.τ22 : Try.τ 22 = some ⟨.slice 37, 1, 24, [.slice none 0 0]⟩ := rfl
@[simp] theorem Try.τ23 : Try.τ 23 = some ⟨.func, 1, 8, [.nilFunc]⟩ := rfl
@[simp] theorem Try.τ24 : Try.τ 24 = some ⟨.func, 1, 8, [.nilFunc]⟩ := rfl
@[simp] theorem Try.τ25 : Try.τ 25 = some ⟨.int .i64, 1, 8, [.int .i64 0]⟩ := rfl
@[simp] theorem Try.τ27 : Try.τ 27 = some ⟨.func, 1, 8, [.nilFunc]⟩ := rfl
@[simp] theorem Try.τ28 : Try.τ 28 = some ⟨.func, 1, 8, [.nilFunc]⟩ := rfl
@[simp] theorem Try.τ29 : Try.τ 29 = some ⟨.func, 1, 8, [.nilFunc]⟩ := rfl
@[simp] theorem Try.τ31 : Try.τ 31 = some ⟨.func, 1, 8, [.nilFunc]⟩ := rfl
@[simp] theorem Try.τ32 : Try.τ 32 = some ⟨.func, 1, 8, [.nilFunc]⟩ := rfl
@[simp] theorem Try.τ33 : Try.τ 33 = some ⟨.int .u64, 1, 8, [.int .u64 0]⟩ := rfl
@[simp] theorem Try.τ34 : Try.τ 34 = some ⟨.func, 1, 8, [.nilFunc]⟩ := rfl
@[simp] theorem Try.τ35 : Try.τ 35 = some ⟨.func, 1, 8, [.nilFunc]⟩ := rfl
@[simp] theorem Try.τ36 : Try.τ 36 = some ⟨.struct [(0, 3), (1, 3)], 2, 16, [.int .i64 0, .int .i64 0]⟩ := rfl
@[simp] theorem Try.τ37 : Try.τ 37 = some ⟨.struct [(0, 3), (1, 3)], 2, 16, [.int .i64 0, .int .i64 0]⟩ := rfl
@[simp] theorem Try.τ38 : Try.τ 38 = some ⟨.func, 1, 8, [.nilFunc]⟩ := rfl
@[simp] theorem Try.τ39 : Try.τ 39 = some ⟨.func, 1, 8, [.nilFunc]⟩ := rfl
@[simp] theorem Try.τ40 : Try.τ 40 = some ⟨.func, 1, 8, [.nilFunc]⟩ := rfl
@[simp] theorem Try.τ41 : Try.τ 41 = some ⟨.func, 1, 8, [.nilFunc]⟩ := rfl
@[simp] theorem Try.τ42 : Try.τ 42 = some ⟨.func, 1, 8, [.nilFunc]⟩ := rfl
@[simp] theorem Try.τ43 : Try.τ 43 = some ⟨.func, 1, 8, [.nilFunc]⟩ := rfl
@[simp] theorem Try.τ44 : Try.τ 44 = some ⟨.slice 3, 1, 24, [.slice none 0 0]⟩ := rfl
@[simp] theorem Try.τ45 : Try.τ 45 = some ⟨.func, 1, 8, [.nilFunc]⟩ := rfl
@[simp] theorem Try.τ46 : Try.τ 46 = some ⟨.func, 1, 8, [.nilFunc]⟩ := rfl
@[simp] theorem Try.τ47 : Try.τ 47 = some ⟨.func, 1, 8, [.nilFunc]⟩ := rfl
@[simp] theorem Try.τ48 : Try.τ 48 = some ⟨.func, 1, 8, [.nilFunc]⟩ := rfl
@[simp] theorem Try.τ49 : Try.τ 49 = some ⟨.func, 1, 8, [.nilFunc]⟩ := rfl
@[simp] theorem Try.τ50 : Try.τ 50 = some ⟨.func, 1, 8, [.nilFunc]⟩ := rfl
@[simp] theorem Try.τ51 : Try.τ 51 = some ⟨.func, 1, 8, [.nilFunc]⟩ := rfl
@[simp] theorem Try.τ52 : Try.τ 52 = some ⟨.func, 1, 8, [.nilFunc]⟩ := rfl
@[simp] theorem Try.τ53 : Try.τ 53 = some ⟨.func, 1, 8, [.nilFunc]⟩ := rfl
@[simp] theorem Try.τ54 : Try.τ 54 = some ⟨.func, 1, 8, [.nilFunc]⟩ := rfl
@[simp] theorem Try.τ55 : Try.τ 55 = some ⟨.func, 1, 8, [.nilFunc]⟩ := rfl
@[simp] theorem Try.τ56 : Try.τ 56 = some ⟨.func, 1, 8, [.nilFunc]⟩ := rfl
@[simp] theorem Try.τ57 : Try.τ 57 = some ⟨.slice 22, 1, 24, [.slice none 0 0]⟩ := rfl
@[simp] theorem Try.τ58 : Try.τ 58 = some ⟨.func, 1, 8, [.nilFunc]⟩ := rfl
@[simp] theorem Try.τ59 : Try.τ 59 = some ⟨.func, 1, 8, [.nilFunc]⟩ := rfl
@[simp] theorem Try.τ60 : Try.τ 60 = some ⟨.func, 1, 8, [.nilFunc]⟩ := rfl
@[simp] theorem Try.τ61 : Try.τ 61 = some ⟨.func, 1, 8, [.nilFunc]⟩ := rfl
@[simp] theorem Try.τ62 : Try.τ 62 = some ⟨.func, 1, 8, [.nilFunc]⟩ := rfl
@[simp] theorem Try.τ63 : Try.τ 63 = some ⟨.func, 1, 8, [.nilFunc]⟩ := rfl
@[simp] theorem Try.τ64 : Try.τ 64 = some ⟨.func, 1, 8, [.nilFunc]⟩ := rfl
@[simp] theorem Try.τ65 : Try.τ 65 = some ⟨.func, 1, 8, [.nilFunc]⟩ := rfl
@[simp] theorem Try.τ66 : Try.τ 66 = some ⟨.func, 1, 8, [.nilFunc]⟩ := rfl
@[simp] theorem Try.τ67 : Try.τ 67 = some ⟨.func, 1, 8, [.nilFunc]⟩ := rfl
@[simp] theorem Try.τ68 : Try.τ 68 = some ⟨.func, 1, 8, [.nilFunc]⟩ := rfl
@[simp] theorem Try.τ69 : Try.τ 69 = some ⟨.func, 1, 8, [.nilFunc]⟩ := rfl
@[simp] theorem Try.τ70 : Try.τ 70 = some ⟨.func, 1, 8, [.nilFunc]⟩ := rfl
@[simp] theorem Try.τ71 : Try.τ 71 = some ⟨.func, 1, 8, [.nilFunc]⟩ := rfl
@[simp] theorem Try.τ72 : Try.τ 72 = some ⟨.func, 1, 8, [.nilFunc]⟩ := rfl
@[simp] theorem Try.τ73 : Try.τ 73 = some ⟨.func, 1, 8, [.nilFunc]⟩ := rfl
@[simp] theorem Try.τ74 : Try.τ 74 = some ⟨.func, 1, 8, [.nilFunc]⟩ := rfl
@[simp] theorem Try.τ75 : Try.τ 75 = some ⟨.int .i64, 1, 8, [.int .i64 0]⟩ := rfl
@[simp] theorem Try.τ77 : Try.τ 77 = some ⟨.func, 1, 8, [.nilFunc]⟩ := rfl
@[simp] theorem Try.τ78 : Try.τ 78 = some ⟨.func, 1, 8, [.nilFunc]⟩ := rfl
@[simp] theorem Try.τ79 : Try.τ 79 = some ⟨.func, 1, 8, [.nilFunc]⟩ := rfl
@[simp] theorem Try.τ81 : Try.τ 81 = some ⟨.func, 1, 8, [.nilFunc]⟩ := rfl
@[simp] theorem Try.τ82 : Try.τ 82 = some ⟨.func, 1, 8, [.nilFunc]⟩ := rfl
@[simp] theorem Try.τ83 : Try.τ 83 = some ⟨.int .u32, 1, 4, [.int .u32 0]⟩ := rfl
@[simp] theorem Try.τ84 : Try.τ 84 = some ⟨.func, 1, 8, [.nilFunc]⟩ := rfl
@[simp] theorem Try.τ85 : Try.τ 85 = some ⟨.int .u64, 1, 8, [.int .u64 0]⟩ := rfl
@[simp] theorem Try.τ86 : Try.τ 86 = some ⟨.int .u64, 1, 8, [.int .u64 0]⟩ := rfl
@[simp] theorem Try.τ87 : Try.τ 87 = some ⟨.func, 1, 8, [.nilFunc]⟩ := rfl
@[simp] theorem Try.τ88 : Try.τ 88 = some ⟨.func, 1, 8, [.nilFunc]⟩ := rfl
@[simp] theorem Try.τ89 : Try.τ 89 = some ⟨.func, 1, 8, [.nilFunc]⟩ := rfl
@[simp] theorem Try.τ90 : Try.τ 90 = some ⟨.ptr 3, 1, 8, [.pointer none]⟩ := rfl
@[simp] theorem Try.τ91 : Try.τ 91 = some ⟨.func, 1, 8, [.nilFunc]⟩ := rfl
@[simp] theorem Try.τ92 : Try.τ 92 = some ⟨.ptr 86, 1, 8, [.pointer none]⟩ := rfl
@[simp] theorem Try.τ94 : Try.τ 94 = some ⟨.func, 1, 8, [.nilFunc]⟩ := rfl
@[simp] theorem Try.τ95 : Try.τ 95 = some ⟨.func, 1, 8, [.nilFunc]⟩ := rfl
@[simp] theorem Try.τ96 : Try.τ 96 = some ⟨.struct [(0, 17), (1, 17), (2, 17), (3, 9)], 4, 40, [.pointer none, .pointer none, .pointer none, .string { data := #[] }]⟩ := rfl
@[simp] theorem Try.τ97 : Try.τ 97 = some ⟨.struct [(0, 17), (1, 17), (2, 17), (3, 9)], 4, 40, [.pointer none, .pointer none, .pointer none, .string { data := #[] }]⟩ := rfl
@[simp] theorem Try.τ98 : Try.τ 98 = some ⟨.array 0 16, 0, 0, []⟩ := rfl
@[simp] theorem Try.τ99 : Try.τ 99 = some ⟨.struct [(0, 98)], 0, 0, []⟩ := rfl
@[simp] theorem Try.τ100 : Try.τ 100 = some ⟨.struct [(0, 98)], 0, 0, []⟩ := rfl
@[simp] theorem Try.τ101 : Try.τ 101 = some ⟨.func, 1, 8, [.nilFunc]⟩ := rfl
@[simp] theorem Try.τ102 : Try.τ 102 = some ⟨.int .u8, 1, 1, [.int .u8 0]⟩ := rfl
@[simp] theorem Try.τ103 : Try.τ 103 = some ⟨.int .u8, 1, 1, [.int .u8 0]⟩ := rfl
@[simp] theorem Try.τ104 : Try.τ 104 = some ⟨.func, 1, 8, [.nilFunc]⟩ := rfl
@[simp] theorem Try.τ105 : Try.τ 105 = some ⟨.ptr 5, 1, 8, [.pointer none]⟩ := rfl
@[simp] theorem Try.τ106 : Try.τ 106 = some ⟨.int .i32, 1, 4, [.int .i32 0]⟩ := rfl
@[simp] theorem Try.τ107 : Try.τ 107 = some ⟨.int .i32, 1, 4, [.int .i32 0]⟩ := rfl
@[simp] theorem Try.τ108 : Try.τ 108 = some ⟨.struct [(0, 12), (1, 12), (2, 83), (3, 102), (4, 5), (5, 5), (6, 103), (7, 104), (8, 105), (9, 106), (10, 107)], 11, 48, [.int .u64 0, .int .u64 0, .int .u32 0, .int .u8 0, .int .u8 0, .int .u8 0, .int .u8 0, .nilFunc, .pointer none, .int .i32 0, .int .i32 0]⟩ := rfl
@[simp] theorem Try.τ109 : Try.τ 109 = some ⟨.struct [(0, 12), (1, 12), (2, 83), (3, 102), (4, 5), (5, 5), (6, 103), (7, 104), (8, 105), (9, 106), (10, 107)], 11, 48, [.int .u64 0, .int .u64 0, .int .u32 0, .int .u8 0, .int .u8 0, .int .u8 0, .int .u8 0, .nilFunc, .pointer none, .int .i32 0, .int .i32 0]⟩ := rfl
set_option maxRecDepth 100000 in
theorem Try.ty1 : TyOk Try.prog 1 ⟨.func, 1, 8, [.nilFunc]⟩ := ⟨⟨Try.t1, _, by kernel_rfl, rfl, rfl, rfl, rfl, rfl, rfl⟩, ⟨_, Try.underlying1, ⟨_, _, _, rfl⟩⟩⟩
theorem Try.ty2 : TyOk Try.prog 2 ⟨.int .i64, 1, 8, [.int .i64 0]⟩ := ⟨⟨Try.t2, _, by kernel_rfl, rfl, rfl, rfl, rfl, rfl, rfl⟩, ⟨_, Try.underlying2, rfl⟩⟩
theorem Try.ty3 : TyOk Try.prog 3 ⟨.int .i64, 1, 8, [.int .i64 0]⟩ := ⟨⟨Try.t3, _, by kernel_rfl, rfl, rfl, rfl, rfl, rfl, rfl⟩, ⟨_, Try.underlying3, rfl⟩⟩
theorem Try.ty4 : TyOk Try.prog 4 ⟨.bool, 1, 1, [.bool false]⟩ := ⟨⟨Try.t4, _, by kernel_rfl, rfl, rfl, rfl, rfl, rfl, rfl⟩, ⟨_, Try.underlying4, rfl⟩⟩
theorem Try.ty5 : TyOk Try.prog 5 ⟨.int .u8, 1, 1, [.int .u8 0]⟩ := ⟨⟨Try.t5, _, by kernel_rfl, rfl, rfl, rfl, rfl, rfl, rfl⟩, ⟨_, Try.underlying5, rfl⟩⟩
theorem Try.ty6 : TyOk Try.prog 6 ⟨.int .u8, 1, 1, [.int .u8 0]⟩ := ⟨⟨Try.t6, _, by kernel_rfl, rfl, rfl, rfl, rfl, rfl, rfl⟩, ⟨_, Try.underlying6, rfl⟩⟩
theorem Try.ty7 : TyOk Try.prog 7 ⟨.struct [(0, 2), (1, 3), (2, 4), (3, 6)], 4, 24, [.int .i64 0, .int .i64 0, .bool false, .int .u8 0]⟩ := ⟨⟨Try.t7, _, by kernel_rfl, rfl, rfl, rfl, rfl, rfl, rfl⟩, ⟨_, Try.underlying7, ⟨_, rfl, rfl⟩⟩⟩
theorem Try.ty8 : TyOk Try.prog 8 ⟨.struct [(0, 2), (1, 3), (2, 4), (3, 6)], 4, 24, [.int .i64 0, .int .i64 0, .bool false, .int .u8 0]⟩ := ⟨⟨Try.t8, _, by kernel_rfl, rfl, rfl, rfl, rfl, rfl, rfl⟩, ⟨_, Try.underlying8, ⟨_, rfl, rfl⟩⟩⟩
theorem Try.ty9 : TyOk Try.prog 9 ⟨.string, 1, 16, [.string { data := #[] }]⟩ := ⟨⟨Try.t9, _, by kernel_rfl, rfl, rfl, rfl, rfl, rfl, rfl⟩, ⟨_, Try.underlying9, rfl⟩⟩
theorem Try.ty10 : TyOk Try.prog 10 ⟨.string, 1, 16, [.string { data := #[] }]⟩ := ⟨⟨Try.t10, _, by kernel_rfl, rfl, rfl, rfl, rfl, rfl, rfl⟩, ⟨_, Try.underlying10, rfl⟩⟩
theorem Try.ty11 : TyOk Try.prog 11 ⟨.string, 1, 16, [.string { data := #[] }]⟩ := ⟨⟨Try.t11, _, by kernel_rfl, rfl, rfl, rfl, rfl, rfl, rfl⟩, ⟨_, Try.underlying11, rfl⟩⟩
theorem Try.ty12 : TyOk Try.prog 12 ⟨.int .u64, 1, 8, [.int .u64 0]⟩ := ⟨⟨Try.t12, _, by kernel_rfl, rfl, rfl, rfl, rfl, rfl, rfl⟩, ⟨_, Try.underlying12, rfl⟩⟩
theorem Try.ty13 : TyOk Try.prog 13 ⟨.struct [(0, 9), (1, 12)], 2, 24, [.string { data := #[] }, .int .u64 0]⟩ := ⟨⟨Try.t13, _, by kernel_rfl, rfl, rfl, rfl, rfl, rfl, rfl⟩, ⟨_, Try.underlying13, ⟨_, rfl, rfl⟩⟩⟩
theorem Try.ty14 : TyOk Try.prog 14 ⟨.struct [(0, 9), (1, 12)], 2, 24, [.string { data := #[] }, .int .u64 0]⟩ := ⟨⟨Try.t14, _, by kernel_rfl, rfl, rfl, rfl, rfl, rfl, rfl⟩, ⟨_, Try.underlying14, ⟨_, rfl, rfl⟩⟩⟩
theorem Try.ty15 : TyOk Try.prog 15 ⟨.ptr 97, 1, 8, [.pointer none]⟩ := ⟨⟨Try.t15, _, by kernel_rfl, rfl, rfl, rfl, rfl, rfl, rfl⟩, ⟨_, Try.underlying15, rfl⟩⟩
theorem Try.ty16 : TyOk Try.prog 16 ⟨.ptr 100, 1, 8, [.pointer none]⟩ := ⟨⟨Try.t16, _, by kernel_rfl, rfl, rfl, rfl, rfl, rfl, rfl⟩, ⟨_, Try.underlying16, rfl⟩⟩
theorem Try.ty17 : TyOk Try.prog 17 ⟨.ptr 109, 1, 8, [.pointer none]⟩ := ⟨⟨Try.t17, _, by kernel_rfl, rfl, rfl, rfl, rfl, rfl, rfl⟩, ⟨_, Try.underlying17, rfl⟩⟩
theorem Try.ty18 : TyOk Try.prog 18 ⟨.struct [(0, 17)], 1, 8, [.pointer none]⟩ := ⟨⟨Try.t18, _, by kernel_rfl, rfl, rfl, rfl, rfl, rfl, rfl⟩, ⟨_, Try.underlying18, ⟨_, rfl, rfl⟩⟩⟩
theorem Try.ty19 : TyOk Try.prog 19 ⟨.struct [(0, 17)], 1, 8, [.pointer none]⟩ := ⟨⟨Try.t19, _, by kernel_rfl, rfl, rfl, rfl, rfl, rfl, rfl⟩, ⟨_, Try.underlying19, ⟨_, rfl, rfl⟩⟩⟩
theorem Try.ty20 : TyOk Try.prog 20 ⟨.iface, 1, 16, [.nilIface]⟩ := ⟨⟨Try.t20, _, by kernel_rfl, rfl, rfl, rfl, rfl, rfl, rfl⟩, ⟨_, Try.underlying20, ⟨_, rfl⟩⟩⟩
theorem Try.ty21 : TyOk Try.prog 21 ⟨.int .i32, 1, 4, [.int .i32 0]⟩ := ⟨⟨Try.t21, _, by kernel_rfl, rfl, rfl, rfl, rfl, rfl, rfl⟩, ⟨_, Try.underlying21, rfl⟩⟩
theorem Try.ty22 : TyOk Try.prog 22 ⟨.slice 37, 1, 24, [.slice none 0 0]⟩ := ⟨⟨Try.t22, _, by kernel_rfl, rfl, rfl, rfl, rfl, rfl, rfl⟩, ⟨_, Try.underlying22, rfl⟩⟩
theorem Try.ty23 : TyOk Try.prog 23 ⟨.func, 1, 8, [.nilFunc]⟩ := ⟨⟨Try.t23, _, by kernel_rfl, rfl, rfl, rfl, rfl, rfl, rfl⟩, ⟨_, Try.underlying23, ⟨_, _, _, rfl⟩⟩⟩
theorem Try.ty24 : TyOk Try.prog 24 ⟨.func, 1, 8, [.nilFunc]⟩ := ⟨⟨Try.t24, _, by kernel_rfl, rfl, rfl, rfl, rfl, rfl, rfl⟩, ⟨_, Try.underlying24, ⟨_, _, _, rfl⟩⟩⟩
theorem Try.ty25 : TyOk Try.prog 25 ⟨.int .i64, 1, 8, [.int .i64 0]⟩ := ⟨⟨Try.t25, _, by kernel_rfl, rfl, rfl, rfl, rfl, rfl, rfl⟩, ⟨_, Try.underlying25, rfl⟩⟩
theorem Try.ty27 : TyOk Try.prog 27 ⟨.func, 1, 8, [.nilFunc]⟩ := ⟨⟨Try.t27, _, by kernel_rfl, rfl, rfl, rfl, rfl, rfl, rfl⟩, ⟨_, Try.underlying27, ⟨_, _, _, rfl⟩⟩⟩
theorem Try.ty28 : TyOk Try.prog 28 ⟨.func, 1, 8, [.nilFunc]⟩ := ⟨⟨Try.t28, _, by kernel_rfl, rfl, rfl, rfl, rfl, rfl, rfl⟩, ⟨_, Try.underlying28, ⟨_, _, _, rfl⟩⟩⟩
theorem Try.ty29 : TyOk Try.prog 29 ⟨.func, 1, 8, [.nilFunc]⟩ := ⟨⟨Try.t29, _, by kernel_rfl, rfl, rfl, rfl, rfl, rfl, rfl⟩, ⟨_, Try.underlying29, ⟨_, _, _, rfl⟩⟩⟩
theorem Try.ty31 : TyOk Try.prog 31 ⟨.func, 1, 8, [.nilFunc]⟩ := ⟨⟨Try.t31, _, by kernel_rfl, rfl, rfl, rfl, rfl, rfl, rfl⟩, ⟨_, Try.underlying31, ⟨_, _, _, rfl⟩⟩⟩
theorem Try.ty32 : TyOk Try.prog 32 ⟨.func, 1, 8, [.nilFunc]⟩ := ⟨⟨Try.t32, _, by kernel_rfl, rfl, rfl, rfl, rfl, rfl, rfl⟩, ⟨_, Try.underlying32, ⟨_, _, _, rfl⟩⟩⟩
theorem Try.ty33 : TyOk Try.prog 33 ⟨.int .u64, 1, 8, [.int .u64 0]⟩ := ⟨⟨Try.t33, _, by kernel_rfl, rfl, rfl, rfl, rfl, rfl, rfl⟩, ⟨_, Try.underlying33, rfl⟩⟩
theorem Try.ty34 : TyOk Try.prog 34 ⟨.func, 1, 8, [.nilFunc]⟩ := ⟨⟨Try.t34, _, by kernel_rfl, rfl, rfl, rfl, rfl, rfl, rfl⟩, ⟨_, Try.underlying34, ⟨_, _, _, rfl⟩⟩⟩
theorem Try.ty35 : TyOk Try.prog 35 ⟨.func, 1, 8, [.nilFunc]⟩ := ⟨⟨Try.t35, _, by kernel_rfl, rfl, rfl, rfl, rfl, rfl, rfl⟩, ⟨_, Try.underlying35, ⟨_, _, _, rfl⟩⟩⟩
theorem Try.ty36 : TyOk Try.prog 36 ⟨.struct [(0, 3), (1, 3)], 2, 16, [.int .i64 0, .int .i64 0]⟩ := ⟨⟨Try.t36, _, by kernel_rfl, rfl, rfl, rfl, rfl, rfl, rfl⟩, ⟨_, Try.underlying36, ⟨_, rfl, rfl⟩⟩⟩
theorem Try.ty37 : TyOk Try.prog 37 ⟨.struct [(0, 3), (1, 3)], 2, 16, [.int .i64 0, .int .i64 0]⟩ := ⟨⟨Try.t37, _, by kernel_rfl, rfl, rfl, rfl, rfl, rfl, rfl⟩, ⟨_, Try.underlying37, ⟨_, rfl, rfl⟩⟩⟩
theorem Try.ty38 : TyOk Try.prog 38 ⟨.func, 1, 8, [.nilFunc]⟩ := ⟨⟨Try.t38, _, by kernel_rfl, rfl, rfl, rfl, rfl, rfl, rfl⟩, ⟨_, Try.underlying38, ⟨_, _, _, rfl⟩⟩⟩
theorem Try.ty39 : TyOk Try.prog 39 ⟨.func, 1, 8, [.nilFunc]⟩ := ⟨⟨Try.t39, _, by kernel_rfl, rfl, rfl, rfl, rfl, rfl, rfl⟩, ⟨_, Try.underlying39, ⟨_, _, _, rfl⟩⟩⟩
theorem Try.ty40 : TyOk Try.prog 40 ⟨.func, 1, 8, [.nilFunc]⟩ := ⟨⟨Try.t40, _, by kernel_rfl, rfl, rfl, rfl, rfl, rfl, rfl⟩, ⟨_, Try.underlying40, ⟨_, _, _, rfl⟩⟩⟩
theorem Try.ty41 : TyOk Try.prog 41 ⟨.func, 1, 8, [.nilFunc]⟩ := ⟨⟨Try.t41, _, by kernel_rfl, rfl, rfl, rfl, rfl, rfl, rfl⟩, ⟨_, Try.underlying41, ⟨_, _, _, rfl⟩⟩⟩
theorem Try.ty42 : TyOk Try.prog 42 ⟨.func, 1, 8, [.nilFunc]⟩ := ⟨⟨Try.t42, _, by kernel_rfl, rfl, rfl, rfl, rfl, rfl, rfl⟩, ⟨_, Try.underlying42, ⟨_, _, _, rfl⟩⟩⟩
theorem Try.ty43 : TyOk Try.prog 43 ⟨.func, 1, 8, [.nilFunc]⟩ := ⟨⟨Try.t43, _, by kernel_rfl, rfl, rfl, rfl, rfl, rfl, rfl⟩, ⟨_, Try.underlying43, ⟨_, _, _, rfl⟩⟩⟩
theorem Try.ty44 : TyOk Try.prog 44 ⟨.slice 3, 1, 24, [.slice none 0 0]⟩ := ⟨⟨Try.t44, _, by kernel_rfl, rfl, rfl, rfl, rfl, rfl, rfl⟩, ⟨_, Try.underlying44, rfl⟩⟩
theorem Try.ty45 : TyOk Try.prog 45 ⟨.func, 1, 8, [.nilFunc]⟩ := ⟨⟨Try.t45, _, by kernel_rfl, rfl, rfl, rfl, rfl, rfl, rfl⟩, ⟨_, Try.underlying45, ⟨_, _, _, rfl⟩⟩⟩
theorem Try.ty46 : TyOk Try.prog 46 ⟨.func, 1, 8, [.nilFunc]⟩ := ⟨⟨Try.t46, _, by kernel_rfl, rfl, rfl, rfl, rfl, rfl, rfl⟩, ⟨_, Try.underlying46, ⟨_, _, _, rfl⟩⟩⟩
theorem Try.ty47 : TyOk Try.prog 47 ⟨.func, 1, 8, [.nilFunc]⟩ := ⟨⟨Try.t47, _, by kernel_rfl, rfl, rfl, rfl, rfl, rfl, rfl⟩, ⟨_, Try.underlying47, ⟨_, _, _, rfl⟩⟩⟩
theorem Try.ty48 : TyOk Try.prog 48 ⟨.func, 1, 8, [.nilFunc]⟩ := ⟨⟨Try.t48, _, by kernel_rfl, rfl, rfl, rfl, rfl, rfl, rfl⟩, ⟨_, Try.underlying48, ⟨_, _, _, rfl⟩⟩⟩
theorem Try.ty49 : TyOk Try.prog 49 ⟨.func, 1, 8, [.nilFunc]⟩ := ⟨⟨Try.t49, _, by kernel_rfl, rfl, rfl, rfl, rfl, rfl, rfl⟩, ⟨_, Try.underlying49, ⟨_, _, _, rfl⟩⟩⟩
theorem Try.ty50 : TyOk Try.prog 50 ⟨.func, 1, 8, [.nilFunc]⟩ := ⟨⟨Try.t50, _, by kernel_rfl, rfl, rfl, rfl, rfl, rfl, rfl⟩, ⟨_, Try.underlying50, ⟨_, _, _, rfl⟩⟩⟩
theorem Try.ty51 : TyOk Try.prog 51 ⟨.func, 1, 8, [.nilFunc]⟩ := ⟨⟨Try.t51, _, by kernel_rfl, rfl, rfl, rfl, rfl, rfl, rfl⟩, ⟨_, Try.underlying51, ⟨_, _, _, rfl⟩⟩⟩
theorem Try.ty52 : TyOk Try.prog 52 ⟨.func, 1, 8, [.nilFunc]⟩ := ⟨⟨Try.t52, _, by kernel_rfl, rfl, rfl, rfl, rfl, rfl, rfl⟩, ⟨_, Try.underlying52, ⟨_, _, _, rfl⟩⟩⟩
theorem Try.ty53 : TyOk Try.prog 53 ⟨.func, 1, 8, [.nilFunc]⟩ := ⟨⟨Try.t53, _, by kernel_rfl, rfl, rfl, rfl, rfl, rfl, rfl⟩, ⟨_, Try.underlying53, ⟨_, _, _, rfl⟩⟩⟩
theorem Try.ty54 : TyOk Try.prog 54 ⟨.func, 1, 8, [.nilFunc]⟩ := ⟨⟨Try.t54, _, by kernel_rfl, rfl, rfl, rfl, rfl, rfl, rfl⟩, ⟨_, Try.underlying54, ⟨_, _, _, rfl⟩⟩⟩
theorem Try.ty55 : TyOk Try.prog 55 ⟨.func, 1, 8, [.nilFunc]⟩ := ⟨⟨Try.t55, _, by kernel_rfl, rfl, rfl, rfl, rfl, rfl, rfl⟩, ⟨_, Try.underlying55, ⟨_, _, _, rfl⟩⟩⟩
theorem Try.ty56 : TyOk Try.prog 56 ⟨.func, 1, 8, [.nilFunc]⟩ := ⟨⟨Try.t56, _, by kernel_rfl, rfl, rfl, rfl, rfl, rfl, rfl⟩, ⟨_, Try.underlying56, ⟨_, _, _, rfl⟩⟩⟩
theorem Try.ty57 : TyOk Try.prog 57 ⟨.slice 22, 1, 24, [.slice none 0 0]⟩ := ⟨⟨Try.t57, _, by kernel_rfl, rfl, rfl, rfl, rfl, rfl, rfl⟩, ⟨_, Try.underlying57, rfl⟩⟩
theorem Try.ty58 : TyOk Try.prog 58 ⟨.func, 1, 8, [.nilFunc]⟩ := ⟨⟨Try.t58, _, by kernel_rfl, rfl, rfl, rfl, rfl, rfl, rfl⟩, ⟨_, Try.underlying58, ⟨_, _, _, rfl⟩⟩⟩
theorem Try.ty59 : TyOk Try.prog 59 ⟨.func, 1, 8, [.nilFunc]⟩ := ⟨⟨Try.t59, _, by kernel_rfl, rfl, rfl, rfl, rfl, rfl, rfl⟩, ⟨_, Try.underlying59, ⟨_, _, _, rfl⟩⟩⟩
theorem Try.ty60 : TyOk Try.prog 60 ⟨.func, 1, 8, [.nilFunc]⟩ := ⟨⟨Try.t60, _, by kernel_rfl, rfl, rfl, rfl, rfl, rfl, rfl⟩, ⟨_, Try.underlying60, ⟨_, _, _, rfl⟩⟩⟩
theorem Try.ty61 : TyOk Try.prog 61 ⟨.func, 1, 8, [.nilFunc]⟩ := ⟨⟨Try.t61, _, by kernel_rfl, rfl, rfl, rfl, rfl, rfl, rfl⟩, ⟨_, Try.underlying61, ⟨_, _, _, rfl⟩⟩⟩
theorem Try.ty62 : TyOk Try.prog 62 ⟨.func, 1, 8, [.nilFunc]⟩ := ⟨⟨Try.t62, _, by kernel_rfl, rfl, rfl, rfl, rfl, rfl, rfl⟩, ⟨_, Try.underlying62, ⟨_, _, _, rfl⟩⟩⟩
theorem Try.ty63 : TyOk Try.prog 63 ⟨.func, 1, 8, [.nilFunc]⟩ := ⟨⟨Try.t63, _, by kernel_rfl, rfl, rfl, rfl, rfl, rfl, rfl⟩, ⟨_, Try.underlying63, ⟨_, _, _, rfl⟩⟩⟩
theorem Try.ty64 : TyOk Try.prog 64 ⟨.func, 1, 8, [.nilFunc]⟩ := ⟨⟨Try.t64, _, by kernel_rfl, rfl, rfl, rfl, rfl, rfl, rfl⟩, ⟨_, Try.underlying64, ⟨_, _, _, rfl⟩⟩⟩
theorem Try.ty65 : TyOk Try.prog 65 ⟨.func, 1, 8, [.nilFunc]⟩ := ⟨⟨Try.t65, _, by kernel_rfl, rfl, rfl, rfl, rfl, rfl, rfl⟩, ⟨_, Try.underlying65, ⟨_, _, _, rfl⟩⟩⟩
theorem Try.ty66 : TyOk Try.prog 66 ⟨.func, 1, 8, [.nilFunc]⟩ := ⟨⟨Try.t66, _, by kernel_rfl, rfl, rfl, rfl, rfl, rfl, rfl⟩, ⟨_, Try.underlying66, ⟨_, _, _, rfl⟩⟩⟩
theorem Try.ty67 : TyOk Try.prog 67 ⟨.func, 1, 8, [.nilFunc]⟩ := ⟨⟨Try.t67, _, by kernel_rfl, rfl, rfl, rfl, rfl, rfl, rfl⟩, ⟨_, Try.underlying67, ⟨_, _, _, rfl⟩⟩⟩
theorem Try.ty68 : TyOk Try.prog 68 ⟨.func, 1, 8, [.nilFunc]⟩ := ⟨⟨Try.t68, _, by kernel_rfl, rfl, rfl, rfl, rfl, rfl, rfl⟩, ⟨_, Try.underlying68, ⟨_, _, _, rfl⟩⟩⟩
theorem Try.ty69 : TyOk Try.prog 69 ⟨.func, 1, 8, [.nilFunc]⟩ := ⟨⟨Try.t69, _, by kernel_rfl, rfl, rfl, rfl, rfl, rfl, rfl⟩, ⟨_, Try.underlying69, ⟨_, _, _, rfl⟩⟩⟩
theorem Try.ty70 : TyOk Try.prog 70 ⟨.func, 1, 8, [.nilFunc]⟩ := ⟨⟨Try.t70, _, by kernel_rfl, rfl, rfl, rfl, rfl, rfl, rfl⟩, ⟨_, Try.underlying70, ⟨_, _, _, rfl⟩⟩⟩
theorem Try.ty71 : TyOk Try.prog 71 ⟨.func, 1, 8, [.nilFunc]⟩ := ⟨⟨Try.t71, _, by kernel_rfl, rfl, rfl, rfl, rfl, rfl, rfl⟩, ⟨_, Try.underlying71, ⟨_, _, _, rfl⟩⟩⟩
theorem Try.ty72 : TyOk Try.prog 72 ⟨.func, 1, 8, [.nilFunc]⟩ := ⟨⟨Try.t72, _, by kernel_rfl, rfl, rfl, rfl, rfl, rfl, rfl⟩, ⟨_, Try.underlying72, ⟨_, _, _, rfl⟩⟩⟩
theorem Try.ty73 : TyOk Try.prog 73 ⟨.func, 1, 8, [.nilFunc]⟩ := ⟨⟨Try.t73, _, by kernel_rfl, rfl, rfl, rfl, rfl, rfl, rfl⟩, ⟨_, Try.underlying73, ⟨_, _, _, rfl⟩⟩⟩
theorem Try.ty74 : TyOk Try.prog 74 ⟨.func, 1, 8, [.nilFunc]⟩ := ⟨⟨Try.t74, _, by kernel_rfl, rfl, rfl, rfl, rfl, rfl, rfl⟩, ⟨_, Try.underlying74, ⟨_, _, _, rfl⟩⟩⟩
theorem Try.ty75 : TyOk Try.prog 75 ⟨.int .i64, 1, 8, [.int .i64 0]⟩ := ⟨⟨Try.t75, _, by kernel_rfl, rfl, rfl, rfl, rfl, rfl, rfl⟩, ⟨_, Try.underlying75, rfl⟩⟩
theorem Try.ty77 : TyOk Try.prog 77 ⟨.func, 1, 8, [.nilFunc]⟩ := ⟨⟨Try.t77, _, by kernel_rfl, rfl, rfl, rfl, rfl, rfl, rfl⟩, ⟨_, Try.underlying77, ⟨_, _, _, rfl⟩⟩⟩
theorem Try.ty78 : TyOk Try.prog 78 ⟨.func, 1, 8, [.nilFunc]⟩ := ⟨⟨Try.t78, _, by kernel_rfl, rfl, rfl, rfl, rfl, rfl, rfl⟩, ⟨_, Try.underlying78, ⟨_, _, _, rfl⟩⟩⟩
theorem Try.ty79 : TyOk Try.prog 79 ⟨.func, 1, 8, [.nilFunc]⟩ := ⟨⟨Try.t79, _, by kernel_rfl, rfl, rfl, rfl, rfl, rfl, rfl⟩, ⟨_, Try.underlying79, ⟨_, _, _, rfl⟩⟩⟩
theorem Try.ty81 : TyOk Try.prog 81 ⟨.func, 1, 8, [.nilFunc]⟩ := ⟨⟨Try.t81, _, by kernel_rfl, rfl, rfl, rfl, rfl, rfl, rfl⟩, ⟨_, Try.underlying81, ⟨_, _, _, rfl⟩⟩⟩
theorem Try.ty82 : TyOk Try.prog 82 ⟨.func, 1, 8, [.nilFunc]⟩ := ⟨⟨Try.t82, _, by kernel_rfl, rfl, rfl, rfl, rfl, rfl, rfl⟩, ⟨_, Try.underlying82, ⟨_, _, _, rfl⟩⟩⟩
theorem Try.ty83 : TyOk Try.prog 83 ⟨.int .u32, 1, 4, [.int .u32 0]⟩ := ⟨⟨Try.t83, _, by kernel_rfl, rfl, rfl, rfl, rfl, rfl, rfl⟩, ⟨_, Try.underlying83, rfl⟩⟩
theorem Try.ty84 : TyOk Try.prog 84 ⟨.func, 1, 8, [.nilFunc]⟩ := ⟨⟨Try.t84, _, by kernel_rfl, rfl, rfl, rfl, rfl, rfl, rfl⟩, ⟨_, Try.underlying84, ⟨_, _, _, rfl⟩⟩⟩
theorem Try.ty85 : TyOk Try.prog 85 ⟨.int .u64, 1, 8, [.int .u64 0]⟩ := ⟨⟨Try.t85, _, by kernel_rfl, rfl, rfl, rfl, rfl, rfl, rfl⟩, ⟨_, Try.underlying85, rfl⟩⟩
theorem Try.ty86 : TyOk Try.prog 86 ⟨.int .u64, 1, 8, [.int .u64 0]⟩ := ⟨⟨Try.t86, _, by kernel_rfl, rfl, rfl, rfl, rfl, rfl, rfl⟩, ⟨_, Try.underlying86, rfl⟩⟩
theorem Try.ty87 : TyOk Try.prog 87 ⟨.func, 1, 8, [.nilFunc]⟩ := ⟨⟨Try.t87, _, by kernel_rfl, rfl, rfl, rfl, rfl, rfl, rfl⟩, ⟨_, Try.underlying87, ⟨_, _, _, rfl⟩⟩⟩
theorem Try.ty88 : TyOk Try.prog 88 ⟨.func, 1, 8, [.nilFunc]⟩ := ⟨⟨Try.t88, _, by kernel_rfl, rfl, rfl, rfl, rfl, rfl, rfl⟩, ⟨_, Try.underlying88, ⟨_, _, _, rfl⟩⟩⟩
theorem Try.ty89 : TyOk Try.prog 89 ⟨.func, 1, 8, [.nilFunc]⟩ := ⟨⟨Try.t89, _, by kernel_rfl, rfl, rfl, rfl, rfl, rfl, rfl⟩, ⟨_, Try.underlying89, ⟨_, _, _, rfl⟩⟩⟩
theorem Try.ty90 : TyOk Try.prog 90 ⟨.ptr 3, 1, 8, [.pointer none]⟩ := ⟨⟨Try.t90, _, by kernel_rfl, rfl, rfl, rfl, rfl, rfl, rfl⟩, ⟨_, Try.underlying90, rfl⟩⟩
theorem Try.ty91 : TyOk Try.prog 91 ⟨.func, 1, 8, [.nilFunc]⟩ := ⟨⟨Try.t91, _, by kernel_rfl, rfl, rfl, rfl, rfl, rfl, rfl⟩, ⟨_, Try.underlying91, ⟨_, _, _, rfl⟩⟩⟩
theorem Try.ty92 : TyOk Try.prog 92 ⟨.ptr 86, 1, 8, [.pointer none]⟩ := ⟨⟨Try.t92, _, by kernel_rfl, rfl, rfl, rfl, rfl, rfl, rfl⟩, ⟨_, Try.underlying92, rfl⟩⟩
theorem Try.ty94 : TyOk Try.prog 94 ⟨.func, 1, 8, [.nilFunc]⟩ := ⟨⟨Try.t94, _, by kernel_rfl, rfl, rfl, rfl, rfl, rfl, rfl⟩, ⟨_, Try.underlying94, ⟨_, _, _, rfl⟩⟩⟩
theorem Try.ty95 : TyOk Try.prog 95 ⟨.func, 1, 8, [.nilFunc]⟩ := ⟨⟨Try.t95, _, by kernel_rfl, rfl, rfl, rfl, rfl, rfl, rfl⟩, ⟨_, Try.underlying95, ⟨_, _, _, rfl⟩⟩⟩
theorem Try.ty96 : TyOk Try.prog 96 ⟨.struct [(0, 17), (1, 17), (2, 17), (3, 9)], 4, 40, [.pointer none, .pointer none, .pointer none, .string { data := #[] }]⟩ := ⟨⟨Try.t96, _, by kernel_rfl, rfl, rfl, rfl, rfl, rfl, rfl⟩, ⟨_, Try.underlying96, ⟨_, rfl, rfl⟩⟩⟩
theorem Try.ty97 : TyOk Try.prog 97 ⟨.struct [(0, 17), (1, 17), (2, 17), (3, 9)], 4, 40, [.pointer none, .pointer none, .pointer none, .string { data := #[] }]⟩ := ⟨⟨Try.t97, _, by kernel_rfl, rfl, rfl, rfl, rfl, rfl, rfl⟩, ⟨_, Try.underlying97, ⟨_, rfl, rfl⟩⟩⟩
theorem Try.ty98 : TyOk Try.prog 98 ⟨.array 0 16, 0, 0, []⟩ := ⟨⟨Try.t98, _, by kernel_rfl, rfl, rfl, rfl, rfl, rfl, rfl⟩, ⟨_, Try.underlying98, rfl⟩⟩
theorem Try.ty99 : TyOk Try.prog 99 ⟨.struct [(0, 98)], 0, 0, []⟩ := ⟨⟨Try.t99, _, by kernel_rfl, rfl, rfl, rfl, rfl, rfl, rfl⟩, ⟨_, Try.underlying99, ⟨_, rfl, rfl⟩⟩⟩
theorem Try.ty100 : TyOk Try.prog 100 ⟨.struct [(0, 98)], 0, 0, []⟩ := ⟨⟨Try.t100, _, by kernel_rfl, rfl, rfl, rfl, rfl, rfl, rfl⟩, ⟨_, Try.underlying100, ⟨_, rfl, rfl⟩⟩⟩
theorem Try.ty101 : TyOk Try.prog 101 ⟨.func, 1, 8, [.nilFunc]⟩ := ⟨⟨Try.t101, _, by kernel_rfl, rfl, rfl, rfl, rfl, rfl, rfl⟩, ⟨_, Try.underlying101, ⟨_, _, _, rfl⟩⟩⟩
theorem Try.ty102 : TyOk Try.prog 102 ⟨.int .u8, 1, 1, [.int .u8 0]⟩ := ⟨⟨Try.t102, _, by kernel_rfl, rfl, rfl, rfl, rfl, rfl, rfl⟩, ⟨_, Try.underlying102, rfl⟩⟩
theorem Try.ty103 : TyOk Try.prog 103 ⟨.int .u8, 1, 1, [.int .u8 0]⟩ := ⟨⟨Try.t103, _, by kernel_rfl, rfl, rfl, rfl, rfl, rfl, rfl⟩, ⟨_, Try.underlying103, rfl⟩⟩
theorem Try.ty104 : TyOk Try.prog 104 ⟨.func, 1, 8, [.nilFunc]⟩ := ⟨⟨Try.t104, _, by kernel_rfl, rfl, rfl, rfl, rfl, rfl, rfl⟩, ⟨_, Try.underlying104, ⟨_, _, _, rfl⟩⟩⟩
theorem Try.ty105 : TyOk Try.prog 105 ⟨.ptr 5, 1, 8, [.pointer none]⟩ := ⟨⟨Try.t105, _, by kernel_rfl, rfl, rfl, rfl, rfl, rfl, rfl⟩, ⟨_, Try.underlying105, rfl⟩⟩
theorem Try.ty106 : TyOk Try.prog 106 ⟨.int .i32, 1, 4, [.int .i32 0]⟩ := ⟨⟨Try.t106, _, by kernel_rfl, rfl, rfl, rfl, rfl, rfl, rfl⟩, ⟨_, Try.underlying106, rfl⟩⟩
theorem Try.ty107 : TyOk Try.prog 107 ⟨.int .i32, 1, 4, [.int .i32 0]⟩ := ⟨⟨Try.t107, _, by kernel_rfl, rfl, rfl, rfl, rfl, rfl, rfl⟩, ⟨_, Try.underlying107, rfl⟩⟩
theorem Try.ty108 : TyOk Try.prog 108 ⟨.struct [(0, 12), (1, 12), (2, 83), (3, 102), (4, 5), (5, 5), (6, 103), (7, 104), (8, 105), (9, 106), (10, 107)], 11, 48, [.int .u64 0, .int .u64 0, .int .u32 0, .int .u8 0, .int .u8 0, .int .u8 0, .int .u8 0, .nilFunc, .pointer none, .int .i32 0, .int .i32 0]⟩ := ⟨⟨Try.t108, _, by kernel_rfl, rfl, rfl, rfl, rfl, rfl, rfl⟩, ⟨_, Try.underlying108, ⟨_, rfl, rfl⟩⟩⟩
theorem Try.ty109 : TyOk Try.prog 109 ⟨.struct [(0, 12), (1, 12), (2, 83), (3, 102), (4, 5), (5, 5), (6, 103), (7, 104), (8, 105), (9, 106), (10, 107)], 11, 48, [.int .u64 0, .int .u64 0, .int .u32 0, .int .u8 0, .int .u8 0, .int .u8 0, .int .u8 0, .nilFunc, .pointer none, .int .i32 0, .int .i32 0]⟩ := ⟨⟨Try.t109, _, by kernel_rfl, rfl, rfl, rfl, rfl, rfl, rfl⟩, ⟨_, Try.underlying109, ⟨_, rfl, rfl⟩⟩⟩

theorem Try.tab : TabOk Try.prog Try.τ := by
  intro T e h
  unfold Try.τ at h
  split at h
  · cases h; exact Try.ty1
  · cases h; exact Try.ty2
  · cases h; exact Try.ty3
  · cases h; exact Try.ty4
  · cases h; exact Try.ty5
  · cases h; exact Try.ty6
  · cases h; exact Try.ty7
  · cases h; exact Try.ty8
  · cases h; exact Try.ty9
  · cases h; exact Try.ty10
  · cases h; exact Try.ty11
  · cases h; exact Try.ty12
  · cases h; exact Try.ty13
  · cases h; exact Try.ty14
  · cases h; exact Try.ty15
  · cases h; exact Try.ty16
  · cases h; exact Try.ty17
  · cases h; exact Try.ty18
  · cases h; exact Try.ty19
  · cases h; exact Try.ty20
  · cases h; exact Try.ty21
  · cases h; exact Try.ty22
  · cases h; exact Try.ty23
  · cases h; exact Try.ty24
  · cases h; exact Try.ty25
  · cases h; exact Try.ty27
  · cases h; exact Try.ty28
  · cases h; exact Try.ty29
  · cases h; exact Try.ty31
  · cases h; exact Try.ty32
  · cases h; exact Try.ty33
  · cases h; exact Try.ty34
  · cases h; exact Try.ty35
  · cases h; exact Try.ty36
  · cases h; exact Try.ty37
  · cases h; exact Try.ty38
  · cases h; exact Try.ty39
  · cases h; exact Try.ty40
  · cases h; exact Try.ty41
  · cases h; exact Try.ty42
  · cases h; exact Try.ty43
  · cases h; exact Try.ty44
  · cases h; exact Try.ty45
  · cases h; exact Try.ty46
  · cases h; exact Try.ty47
  · cases h; exact Try.ty48
  · cases h; exact Try.ty49
  · cases h; exact Try.ty50
  · cases h; exact Try.ty51
  · cases h; exact Try.ty52
  · cases h; exact Try.ty53
  · cases h; exact Try.ty54
  · cases h; exact Try.ty55
  · cases h; exact Try.ty56
  · cases h; exact Try.ty57
  · cases h; exact Try.ty58
  · cases h; exact Try.ty59
  · cases h; exact Try.ty60
  · cases h; exact Try.ty61
  · cases h; exact Try.ty62
  · cases h; exact Try.ty63
  · cases h; exact Try.ty64
  · cases h; exact Try.ty65
  · cases h; exact Try.ty66
  · cases h; exact Try.ty67
  · cases h; exact Try.ty68
  · cases h; exact Try.ty69
  · cases h; exact Try.ty70
  · cases h; exact Try.ty71
  · cases h; exact Try.ty72
  · cases h; exact Try.ty73
  · cases h; exact Try.ty74
  · cases h; exact Try.ty75
  · cases h; exact Try.ty77
  · cases h; exact Try.ty78
  · cases h; exact Try.ty79
  · cases h; exact Try.ty81
  · cases h; exact Try.ty82
  · cases h; exact Try.ty83
  · cases h; exact Try.ty84
  · cases h; exact Try.ty85
  · cases h; exact Try.ty86
  · cases h; exact Try.ty87
  · cases h; exact Try.ty88
  · cases h; exact Try.ty89
  · cases h; exact Try.ty90
  · cases h; exact Try.ty91
  · cases h; exact Try.ty92
  · cases h; exact Try.ty94
  · cases h; exact Try.ty95
  · cases h; exact Try.ty96
  · cases h; exact Try.ty97
  · cases h; exact Try.ty98
  · cases h; exact Try.ty99
  · cases h; exact Try.ty100
  · cases h; exact Try.ty101
  · cases h; exact Try.ty102
  · cases h; exact Try.ty103
  · cases h; exact Try.ty104
  · cases h; exact Try.ty105
  · cases h; exact Try.ty106
  · cases h; exact Try.ty107
  · cases h; exact Try.ty108
  · cases h; exact Try.ty109
  · cases h

theorem Try.mixed : Try.prog.follows .mixedOrders = true := by kernel_rfl

theorem Try.body3 : Body Try.prog 3 := ⟨Try.f3, _, Try.func3, rfl, by kernel_rfl⟩
theorem Try.body4 : Body Try.prog 4 := ⟨Try.f4, _, Try.func4, rfl, by kernel_rfl⟩
theorem Try.body5 : Body Try.prog 5 := ⟨Try.f5, _, Try.func5, rfl, by kernel_rfl⟩
theorem Try.body6 : Body Try.prog 6 := ⟨Try.f6, _, Try.func6, rfl, by kernel_rfl⟩
theorem Try.body7 : Body Try.prog 7 := ⟨Try.f7, _, Try.func7, rfl, by kernel_rfl⟩
theorem Try.body8 : Body Try.prog 8 := ⟨Try.f8, _, Try.func8, rfl, by kernel_rfl⟩
theorem Try.body9 : Body Try.prog 9 := ⟨Try.f9, _, Try.func9, rfl, by kernel_rfl⟩
theorem Try.body10 : Body Try.prog 10 := ⟨Try.f10, _, Try.func10, rfl, by kernel_rfl⟩
theorem Try.body11 : Body Try.prog 11 := ⟨Try.f11, _, Try.func11, rfl, by kernel_rfl⟩
theorem Try.body12 : Body Try.prog 12 := ⟨Try.f12, _, Try.func12, rfl, by kernel_rfl⟩
theorem Try.body13 : Body Try.prog 13 := ⟨Try.f13, _, Try.func13, rfl, by kernel_rfl⟩
theorem Try.body14 : Body Try.prog 14 := ⟨Try.f14, _, Try.func14, rfl, by kernel_rfl⟩
theorem Try.body15 : Body Try.prog 15 := ⟨Try.f15, _, Try.func15, rfl, by kernel_rfl⟩
theorem Try.body16 : Body Try.prog 16 := ⟨Try.f16, _, Try.func16, rfl, by kernel_rfl⟩
theorem Try.body17 : Body Try.prog 17 := ⟨Try.f17, _, Try.func17, rfl, by kernel_rfl⟩
theorem Try.body18 : Body Try.prog 18 := ⟨Try.f18, _, Try.func18, rfl, by kernel_rfl⟩
theorem Try.body19 : Body Try.prog 19 := ⟨Try.f19, _, Try.func19, rfl, by kernel_rfl⟩
theorem Try.body20 : Body Try.prog 20 := ⟨Try.f20, _, Try.func20, rfl, by kernel_rfl⟩
theorem Try.body21 : Body Try.prog 21 := ⟨Try.f21, _, Try.func21, rfl, by kernel_rfl⟩
theorem Try.body22 : Body Try.prog 22 := ⟨Try.f22, _, Try.func22, rfl, by kernel_rfl⟩
theorem Try.body23 : Body Try.prog 23 := ⟨Try.f23, _, Try.func23, rfl, by kernel_rfl⟩
theorem Try.body24 : Body Try.prog 24 := ⟨Try.f24, _, Try.func24, rfl, by kernel_rfl⟩
theorem Try.body25 : Body Try.prog 25 := ⟨Try.f25, _, Try.func25, rfl, by kernel_rfl⟩
theorem Try.body26 : Body Try.prog 26 := ⟨Try.f26, _, Try.func26, rfl, by kernel_rfl⟩
theorem Try.body27 : Body Try.prog 27 := ⟨Try.f27, _, Try.func27, rfl, by kernel_rfl⟩
theorem Try.body28 : Body Try.prog 28 := ⟨Try.f28, _, Try.func28, rfl, by kernel_rfl⟩
theorem Try.body29 : Body Try.prog 29 := ⟨Try.f29, _, Try.func29, rfl, by kernel_rfl⟩
theorem Try.body30 : Body Try.prog 30 := ⟨Try.f30, _, Try.func30, rfl, by kernel_rfl⟩
theorem Try.body31 : Body Try.prog 31 := ⟨Try.f31, _, Try.func31, rfl, by kernel_rfl⟩
theorem Try.body32 : Body Try.prog 32 := ⟨Try.f32, _, Try.func32, rfl, by kernel_rfl⟩
theorem Try.body33 : Body Try.prog 33 := ⟨Try.f33, _, Try.func33, rfl, by kernel_rfl⟩
theorem Try.body34 : Body Try.prog 34 := ⟨Try.f34, _, Try.func34, rfl, by kernel_rfl⟩
theorem Try.body35 : Body Try.prog 35 := ⟨Try.f35, _, Try.func35, rfl, by kernel_rfl⟩
theorem Try.body36 : Body Try.prog 36 := ⟨Try.f36, _, Try.func36, rfl, by kernel_rfl⟩
theorem Try.body37 : Body Try.prog 37 := ⟨Try.f37, _, Try.func37, rfl, by kernel_rfl⟩
theorem Try.body38 : Body Try.prog 38 := ⟨Try.f38, _, Try.func38, rfl, by kernel_rfl⟩
theorem Try.body39 : Body Try.prog 39 := ⟨Try.f39, _, Try.func39, rfl, by kernel_rfl⟩
theorem Try.body40 : Body Try.prog 40 := ⟨Try.f40, _, Try.func40, rfl, by kernel_rfl⟩
theorem Try.body41 : Body Try.prog 41 := ⟨Try.f41, _, Try.func41, rfl, by kernel_rfl⟩
theorem Try.body42 : Body Try.prog 42 := ⟨Try.f42, _, Try.func42, rfl, by kernel_rfl⟩
theorem Try.body43 : Body Try.prog 43 := ⟨Try.f43, _, Try.func43, rfl, by kernel_rfl⟩
theorem Try.body44 : Body Try.prog 44 := ⟨Try.f44, _, Try.func44, rfl, by kernel_rfl⟩
theorem Try.body45 : Body Try.prog 45 := ⟨Try.f45, _, Try.func45, rfl, by kernel_rfl⟩
theorem Try.body46 : Body Try.prog 46 := ⟨Try.f46, _, Try.func46, rfl, by kernel_rfl⟩
theorem Try.body47 : Body Try.prog 47 := ⟨Try.f47, _, Try.func47, rfl, by kernel_rfl⟩
theorem Try.body48 : Body Try.prog 48 := ⟨Try.f48, _, Try.func48, rfl, by kernel_rfl⟩
theorem Try.body49 : Body Try.prog 49 := ⟨Try.f49, _, Try.func49, rfl, by kernel_rfl⟩
theorem Try.body50 : Body Try.prog 50 := ⟨Try.f50, _, Try.func50, rfl, by kernel_rfl⟩
theorem Try.body51 : Body Try.prog 51 := ⟨Try.f51, _, Try.func51, rfl, by kernel_rfl⟩
theorem Try.body52 : Body Try.prog 52 := ⟨Try.f52, _, Try.func52, rfl, by kernel_rfl⟩
theorem Try.body53 : Body Try.prog 53 := ⟨Try.f53, _, Try.func53, rfl, by kernel_rfl⟩
theorem Try.body54 : Body Try.prog 54 := ⟨Try.f54, _, Try.func54, rfl, by kernel_rfl⟩
theorem Try.body55 : Body Try.prog 55 := ⟨Try.f55, _, Try.func55, rfl, by kernel_rfl⟩
theorem Try.body56 : Body Try.prog 56 := ⟨Try.f56, _, Try.func56, rfl, by kernel_rfl⟩
theorem Try.body57 : Body Try.prog 57 := ⟨Try.f57, _, Try.func57, rfl, by kernel_rfl⟩
theorem Try.body58 : Body Try.prog 58 := ⟨Try.f58, _, Try.func58, rfl, by kernel_rfl⟩
theorem Try.body59 : Body Try.prog 59 := ⟨Try.f59, _, Try.func59, rfl, by kernel_rfl⟩
theorem Try.body60 : Body Try.prog 60 := ⟨Try.f60, _, Try.func60, rfl, by kernel_rfl⟩
theorem Try.body61 : Body Try.prog 61 := ⟨Try.f61, _, Try.func61, rfl, by kernel_rfl⟩
theorem Try.body62 : Body Try.prog 62 := ⟨Try.f62, _, Try.func62, rfl, by kernel_rfl⟩
theorem Try.body63 : Body Try.prog 63 := ⟨Try.f63, _, Try.func63, rfl, by kernel_rfl⟩
theorem Try.body64 : Body Try.prog 64 := ⟨Try.f64, _, Try.func64, rfl, by kernel_rfl⟩
theorem Try.body65 : Body Try.prog 65 := ⟨Try.f65, _, Try.func65, rfl, by kernel_rfl⟩
theorem Try.body66 : Body Try.prog 66 := ⟨Try.f66, _, Try.func66, rfl, by kernel_rfl⟩
theorem Try.body67 : Body Try.prog 67 := ⟨Try.f67, _, Try.func67, rfl, by kernel_rfl⟩
theorem Try.body68 : Body Try.prog 68 := ⟨Try.f68, _, Try.func68, rfl, by kernel_rfl⟩
theorem Try.body69 : Body Try.prog 69 := ⟨Try.f69, _, Try.func69, rfl, by kernel_rfl⟩
theorem Try.body70 : Body Try.prog 70 := ⟨Try.f70, _, Try.func70, rfl, by kernel_rfl⟩
theorem Try.body71 : Body Try.prog 71 := ⟨Try.f71, _, Try.func71, rfl, by kernel_rfl⟩
theorem Try.body72 : Body Try.prog 72 := ⟨Try.f72, _, Try.func72, rfl, by kernel_rfl⟩
theorem Try.body73 : Body Try.prog 73 := ⟨Try.f73, _, Try.func73, rfl, by kernel_rfl⟩
theorem Try.body74 : Body Try.prog 74 := ⟨Try.f74, _, Try.func74, rfl, by kernel_rfl⟩
theorem Try.body76 : Body Try.prog 76 := ⟨Try.f76, _, Try.func76, rfl, by kernel_rfl⟩
theorem Try.body77 : Body Try.prog 77 := ⟨Try.f77, _, Try.func77, rfl, by kernel_rfl⟩
theorem Try.body78 : Body Try.prog 78 := ⟨Try.f78, _, Try.func78, rfl, by kernel_rfl⟩
instance : Glob := ⟨fun
  | _ => none⟩

end Go.Proofs.Ytphbappgmoojeaa
