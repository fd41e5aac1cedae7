/-
  The types of the seat, for the engine. Printed by seatgen.py.
-/
import Derived.Test.YtnbanfpelgcmoaaRows
import Derived.Test.YtnbanfpelgcmoaaEngO
namespace Go.Proofs.Ytnbanfpelgcmoaa
open Go.Xe

def Try.τ : Tab := fun T => match T with
  | 1 => some ⟨.func, 1, 8, [.nilFunc]⟩
  | 2 => some ⟨.int .i64, 1, 8, [.int .i64 0]⟩
  | 3 => some ⟨.int .i64, 1, 8, [.int .i64 0]⟩
  | 4 => some ⟨.bool, 1, 1, [.bool false]⟩
  | 5 => some ⟨.int .u8, 1, 1, [.int .u8 0]⟩
  | 6 => some ⟨.int .u8, 1, 1, [.int .u8 0]⟩
  | 7 => some ⟨.struct [(0, 2), (1, 3), (2, 4), (3, 6)], 4, 24, [.int .i64 0, .int .i64 0, .bool false, .int .u8 0]⟩
  | 8 => some ⟨.struct [(0, 2), (1, 3), (2, 4), (3, 6)], 4, 24, [.int .i64 0, .int .i64 0, .bool false, .int .u8 0]⟩
  | 9 => some ⟨.string, 1, 16, [.string { data := #[] }]⟩
  | 10 => some ⟨.string, 1, 16, [.string { data := #[] }]⟩
  | 11 => some ⟨.string, 1, 16, [.string { data := #[] }]⟩
  | 12 => some ⟨.int .u64, 1, 8, [.int .u64 0]⟩
  | 13 => some ⟨.struct [(0, 9), (1, 12)], 2, 24, [.string { data := #[] }, .int .u64 0]⟩
  | 14 => some ⟨.struct [(0, 9), (1, 12)], 2, 24, [.string { data := #[] }, .int .u64 0]⟩
  | 15 => some ⟨.ptr 80, 1, 8, [.pointer none]⟩
  | 16 => some ⟨.ptr 83, 1, 8, [.pointer none]⟩
  | 17 => some ⟨.ptr 92, 1, 8, [.pointer none]⟩
  | 18 => some ⟨.struct [(0, 17)], 1, 8, [.pointer none]⟩
  | 19 => some ⟨.struct [(0, 17)], 1, 8, [.pointer none]⟩
  | 20 => some ⟨.iface, 1, 16, [.nilIface]⟩
  | 21 => some ⟨.int .i32, 1, 4, [.int .i32 0]⟩
  | 22 => some ⟨.slice 24, 1, 24, [.slice none 0 0]⟩
  | 23 => some ⟨.struct [(0, 3), (1, 3), (2, 9), (3, 22)], 4, 56, [.int .i64 0, .int .i64 0, .string { data := #[] }, .slice none 0 0]⟩
  | 24 => some ⟨.struct [(0, 3), (1, 3), (2, 9), (3, 22)], 4, 56, [.int .i64 0, .int .i64 0, .string { data := #[] }, .slice none 0 0]⟩
  | 25 => some ⟨.func, 1, 8, [.nilFunc]⟩
  | 26 => some ⟨.func, 1, 8, [.nilFunc]⟩
  | 27 => some ⟨.slice 5, 1, 24, [.slice none 0 0]⟩
  | 28 => some ⟨.int .i64, 1, 8, [.int .i64 0]⟩
  | 30 => some ⟨.func, 1, 8, [.nilFunc]⟩
  | 32 => some ⟨.func, 1, 8, [.nilFunc]⟩
  | 33 => some ⟨.func, 1, 8, [.nilFunc]⟩
  | 34 => some ⟨.func, 1, 8, [.nilFunc]⟩
  | 36 => some ⟨.func, 1, 8, [.nilFunc]⟩
  | 37 => some ⟨.func, 1, 8, [.nilFunc]⟩
  | 38 => some ⟨.func, 1, 8, [.nilFunc]⟩
  | 39 => some ⟨.func, 1, 8, [.nilFunc]⟩
  | 40 => some ⟨.func, 1, 8, [.nilFunc]⟩
  | 41 => some ⟨.func, 1, 8, [.nilFunc]⟩
  | 42 => some ⟨.func, 1, 8, [.nilFunc]⟩
  | 43 => some ⟨.func, 1, 8, [.nilFunc]⟩
  | 44 => some ⟨.func, 1, 8, [.nilFunc]⟩
  | 45 => some ⟨.slice 9, 1, 24, [.slice none 0 0]⟩
  | 46 => some ⟨.func, 1, 8, [.nilFunc]⟩
  | 47 => some ⟨.func, 1, 8, [.nilFunc]⟩
  | 48 => some ⟨.struct [(0, 47)], 1, 8, [.nilFunc]⟩
  | 49 => some ⟨.struct [(0, 47)], 1, 8, [.nilFunc]⟩
  | 50 => some ⟨.ptr 66, 1, 8, [.pointer none]⟩
  | 51 => some ⟨.func, 1, 8, [.nilFunc]⟩
  | 52 => some ⟨.func, 1, 8, [.nilFunc]⟩
  | 54 => some ⟨.func, 1, 8, [.nilFunc]⟩
  | 55 => some ⟨.func, 1, 8, [.nilFunc]⟩
  | 56 => some ⟨.ptr 58, 1, 8, [.pointer none]⟩
  | 57 => some ⟨.struct [(0, 27)], 1, 24, [.slice none 0 0]⟩
  | 58 => some ⟨.struct [(0, 27)], 1, 24, [.slice none 0 0]⟩
  | 59 => some ⟨.func, 1, 8, [.nilFunc]⟩
  | 60 => some ⟨.ptr 62, 1, 8, [.pointer none]⟩
  | 61 => some ⟨.struct [(0, 27), (1, 3), (2, 4)], 3, 40, [.slice none 0 0, .int .i64 0, .bool false]⟩
  | 62 => some ⟨.struct [(0, 27), (1, 3), (2, 4)], 3, 40, [.slice none 0 0, .int .i64 0, .bool false]⟩
  | 63 => some ⟨.func, 1, 8, [.nilFunc]⟩
  | 64 => some ⟨.func, 1, 8, [.nilFunc]⟩
  | 65 => some ⟨.array 4 49, 4, 32, [.nilFunc, .nilFunc, .nilFunc, .nilFunc]⟩
  | 66 => some ⟨.array 4 49, 4, 32, [.nilFunc, .nilFunc, .nilFunc, .nilFunc]⟩
  | 67 => some ⟨.func, 1, 8, [.nilFunc]⟩
  | 68 => some ⟨.int .u64, 1, 8, [.int .u64 0]⟩
  | 69 => some ⟨.func, 1, 8, [.nilFunc]⟩
  | 70 => some ⟨.func, 1, 8, [.nilFunc]⟩
  | 71 => some ⟨.array 4 4, 4, 4, [.bool false, .bool false, .bool false, .bool false]⟩
  | 72 => some ⟨.func, 1, 8, [.nilFunc]⟩
  | 73 => some ⟨.func, 1, 8, [.nilFunc]⟩
  | 74 => some ⟨.func, 1, 8, [.nilFunc]⟩
  | 75 => some ⟨.func, 1, 8, [.nilFunc]⟩
  | 76 => some ⟨.func, 1, 8, [.nilFunc]⟩
  | 77 => some ⟨.int .u64, 1, 8, [.int .u64 0]⟩
  | 78 => some ⟨.func, 1, 8, [.nilFunc]⟩
  | 79 => some ⟨.struct [(0, 17), (1, 17), (2, 17), (3, 9)], 4, 40, [.pointer none, .pointer none, .pointer none, .string { data := #[] }]⟩
  | 80 => some ⟨.struct [(0, 17), (1, 17), (2, 17), (3, 9)], 4, 40, [.pointer none, .pointer none, .pointer none, .string { data := #[] }]⟩
  | 81 => some ⟨.array 0 16, 0, 0, []⟩
  | 82 => some ⟨.struct [(0, 81)], 0, 0, []⟩
  | 83 => some ⟨.struct [(0, 81)], 0, 0, []⟩
  | 84 => some ⟨.int .u32, 1, 4, [.int .u32 0]⟩
  | 85 => some ⟨.int .u8, 1, 1, [.int .u8 0]⟩
  | 86 => some ⟨.int .u8, 1, 1, [.int .u8 0]⟩
  | 87 => some ⟨.func, 1, 8, [.nilFunc]⟩
  | 88 => some ⟨.ptr 5, 1, 8, [.pointer none]⟩
  | 89 => some ⟨.int .i32, 1, 4, [.int .i32 0]⟩
  | 90 => some ⟨.int .i32, 1, 4, [.int .i32 0]⟩
  | 91 => some ⟨.struct [(0, 12), (1, 12), (2, 84), (3, 85), (4, 5), (5, 5), (6, 86), (7, 87), (8, 88), (9, 89), (10, 90)], 11, 48, [.int .u64 0, .int .u64 0, .int .u32 0, .int .u8 0, .int .u8 0, .int .u8 0, .int .u8 0, .nilFunc, .pointer none, .int .i32 0, .int .i32 0]⟩
  | 92 => some ⟨.struct [(0, 12), (1, 12), (2, 84), (3, 85), (4, 5), (5, 5), (6, 86), (7, 87), (8, 88), (9, 89), (10, 90)], 11, 48, [.int .u64 0, .int .u64 0, .int .u32 0, .int .u8 0, .int .u8 0, .int .u8 0, .int .u8 0, .nilFunc, .pointer none, .int .i32 0, .int .i32 0]⟩
  | _ => none

@[simp] theorem Try.τ1 : Try.τ 1 = some ⟨.func, 1, 8, [.nilFunc]⟩ := rfl
@[simp] theorem Try.τ2 : Try.τ 2 = some ⟨.int .i64, 1, 8, [.int .i64 0]⟩ := rfl
@[simp] theorem Try.τ3 : Try.τ 3 = some ⟨.int .i64, 1, 8, [.int .i64 0]⟩ := rfl
@[simp] theorem Try.τ4 : Try.τ 4 = some ⟨.bool, 1, 1, [.bool false]⟩ := rfl
@[simp] theorem Try.τ5 : Try.τ 5 = some ⟨.int .u8, 1, 1, [.int .u8 0]⟩ := rfl
@[simp] theorem Try.τ6 : Try.τ 6 = some ⟨.int .u8, 1, 1, [.int .u8 0]⟩ := rfl
@[simp] theorem Try.τ7 : Try.τ 7 = some ⟨.struct [(0, 2), (1, 3), (2, 4), (3, 6)], 4, 24, [.int .i64 0, .int .i64 0, .bool false, .int .u8 0]⟩ := rfl
@[simp] theorem Try.τ8 : Try.τ 8 = some ⟨.struct [(0, 2), (1, 3), (2, 4), (3, 6)], 4, 24, [.int .i64 0, .int .i64 0, .bool false, .int .u8 0]⟩ := rfl
@[simp] theorem Try.τ9 : Try.τ 9 = some ⟨.string, 1, 16, [.string { data := #[] }]⟩ := rfl
@[simp] theorem Try.τ10 : Try.τ 10 = some ⟨.string, 1, 16, [.string { data := #[] }]⟩ := rfl
@[simp] theorem Try.τ11 : Try.τ 11 = some ⟨.string, 1, 16, [.string { data := #[] }]⟩ := rfl
@[simp] theorem Try.τ12 : Try.τ 12 = some ⟨.int .u64, 1, 8, [.int .u64 0]⟩ := rfl
@[simp] theorem Try.τ13 : Try.τ 13 = some ⟨.struct [(0, 9), (1, 12)], 2, 24, [.string { data := #[] }, .int .u64 0]⟩ := rfl
@[simp] theorem Try.τ14 : Try.τ 14 = some ⟨.struct [(0, 9), (1, 12)], 2, 24, [.string { data := #[] }, .int .u64 0]⟩ := rfl
@[simp] theorem Try.τ15 : Try.τ 15 = some ⟨.ptr 80, 1, 8, [.pointer none]⟩ := rfl
@[simp] theorem Try.τ16 : Try.τ 16 = some ⟨.ptr 83, 1, 8, [.pointer none]⟩ := rfl
@[simp] theorem Try.τ17 : Try.τ 17 = some ⟨.ptr 92, 1, 8, [.pointer none]⟩ := rfl
@[simp] theorem Try.τ18 : Try.τ 18 = some ⟨.struct [(0, 17)], 1, 8, [.pointer none]⟩ := rfl
@[simp] theorem Try.τ19 : Try.τ 19 = some ⟨.struct [(0, 17)], 1, 8, [.pointer none]⟩ := rfl
@[simp] theorem Try.τ20 : Try.τ 20 = some ⟨.iface, 1, 16, [.nilIface]⟩ := rfl
@[simp] theorem Try.τ21 : Try.τ 21 = some ⟨.int .i32, 1, 4, [.int .i32 0]⟩ := rfl
@[simp] theorem Try.τ22 : Try.τ 22 = some ⟨.slice 24, 1, 24, [.slice none 0 0]⟩ := rfl
@[simp] theorem Try.τ23 : Try.τ 23 = some ⟨.struct [(0, 3), (1, 3), (2, 9), (3, 22)], 4, 56, [.int .i64 0, .int .i64 0, .string { data := #[] }, .slice none 0 0]⟩ := rfl
@[simp] theorem Try.τ24 : Try.τ 24 = some ⟨.struct [(0, 3), (1, 3), (2, 9), (3, 22)], 4, 56, [.int .i64 0, .int .i64 0, .string { data := #[] }, .slice none 0 0]⟩ := rfl
@[simp] theorem Try.τ25 : Try.τ 25 = some ⟨.func, 1, 8, [.nilFunc]⟩ := rfl
@[simp] theorem Try.τ26 : Try.τ 26 = some ⟨.func, 1, 8, [.nilFunc]⟩ := rfl
@[simp] theorem Try.τ27 : Try.τ 27 = some ⟨.slice 5, 1, 24, [.slice none 0 0]⟩ := rfl
@[simp] theorem Try.τ28 : Try.τ 28 = some ⟨.int .i64, 1, 8, [.int .i64 0]⟩ := rfl
@[simp] theorem Try.τ30 : Try.τ 30 = some ⟨.func, 1, 8, [.nilFunc]⟩ := rfl
@[simp] theorem Try.τ32 : Try.τ 32 = some ⟨.func, 1, 8, [.nilFunc]⟩ := rfl
@[simp] theorem Try.τ33 : Try.τ 33 = some ⟨.func, 1, 8, [.nilFunc]⟩ := rfl
@[simp] theorem Try.τ34 : Try.τ 34 = some ⟨.func, 1, 8, [.nilFunc]⟩ := rfl
@[simp] theorem Try.τ36 : Try.τ 36 = some ⟨.func, 1, 8, [.nilFunc]⟩ := rfl
@[simp] theorem Try.τ37 : Try.τ 37 = some ⟨.func, 1, 8, [.nilFunc]⟩ := rfl
@[simp] theorem Try.τ38 : Try.τ 38 = some ⟨.func, 1, 8, [.nilFunc]⟩ := rfl
@[simp] theorem Try.τ39 : Try.τ 39 = some ⟨.func, 1, 8, [.nilFunc]⟩ := rfl
@[simp] theorem Try.τ40 : Try.τ 40 = some ⟨.func, 1, 8, [.nilFunc]⟩ := rfl
@[simp] theorem Try.τ41 : Try.τ 41 = some ⟨.func, 1, 8, [.nilFunc]⟩ := rfl
@[simp] theorem Try.τ42 : Try.τ 42 = some ⟨.func, 1, 8, [.nilFunc]⟩ := rfl
@[simp] theorem Try.τ43 : Try.τ 43 = some ⟨.func, 1, 8, [.nilFunc]⟩ := rfl
@[simp] theorem Try.τ44 : Try.τ 44 = some ⟨.func, 1, 8, [.nilFunc]⟩ := rfl
@[simp] theorem Try.τ45 : Try.τ 45 = some ⟨.slice 9, 1, 24, [.slice none 0 0]⟩ := rfl
@[simp] theorem Try.τ46 : Try.τ 46 = some ⟨.func, 1, 8, [.nilFunc]⟩ := rfl
@[simp] theorem Try.τ47 : Try.τ 47 = some ⟨.func, 1, 8, [.nilFunc]⟩ := rfl
@[simp] theorem Try.τ48 : Try.τ 48 = some ⟨.struct [(0, 47)], 1, 8, [.nilFunc]⟩ := rfl
@[simp] theorem Try.τ49 : Try.τ 49 = some ⟨.struct [(0, 47)], 1, 8, [.nilFunc]⟩ := rfl
@[simp] theorem Try.τ50 : Try.τ 50 = some ⟨.ptr 66, 1, 8, [.pointer none]⟩ := rfl
@[simp] theorem Try.τ51 : Try.τ 51 = some ⟨.func, 1, 8, [.nilFunc]⟩ := rfl
@[simp] theorem Try.τ52 : Try.τ 52 = some ⟨.func, 1, 8, [.nilFunc]⟩ := rfl
@[simp] theorem Try.τ54 : Try.τ 54 = some ⟨.func, 1, 8, [.nilFunc]⟩ := rfl
@[simp] theorem Try.τ55 : Try.τ 55 = some ⟨.func, 1, 8, [.nilFunc]⟩ := rfl
@[simp] theorem Try.τ56 : Try.τ 56 = some ⟨.ptr 58, 1, 8, [.pointer none]⟩ := rfl
@[simp] theorem Try.τ57 : Try.τ 57 = some ⟨.struct [(0, 27)], 1, 24, [.slice none 0 0]⟩ := rfl
@[simp] theorem Try.τ58 : Try.τ 58 = some ⟨.struct [(0, 27)], 1, 24, [.slice none 0 0]⟩ := rfl
@[simp] theorem Try.τ59 : Try.τ 59 = some ⟨.func, 1, 8, [.nilFunc]⟩ := rfl
@[simp] theorem Try.τ60 : Try.τ 60 = some ⟨.ptr 62, 1, 8, [.pointer none]⟩ := rfl
@[simp] theorem Try.τ61 : Try.τ 61 = some ⟨.struct [(0, 27), (1, 3), (2, 4)], 3, 40, [.slice none 0 0, .int .i64 0, .bool false]⟩ := rfl
@[simp] theorem Try.τ62 : Try.τ 62 = some ⟨.struct [(0, 27), (1, 3), (2, 4)], 3, 40, [.slice none 0 0, .int .i64 0, .bool false]⟩ := rfl
@[simp] theorem Try.τ63 : Try.τ 63 = some ⟨.func, 1, 8, [.nilFunc]⟩ := rfl
@[simp] theorem Try.τ64 : Try.τ 64 = some ⟨.func, 1, 8, [.nilFunc]⟩ := rfl
@[simp] theorem Try.τ65 : Try.τ 65 = some ⟨.array 4 49, 4, 32, [.nilFunc, .nilFunc, .nilFunc, .nilFunc]⟩ := rfl
@[simp] theorem Try.τ66 : Try.τ 66 = some ⟨.array 4 49, 4, 32, [.nilFunc, .nilFunc, .nilFunc, .nilFunc]⟩ := rfl
@[simp] theorem Try.τ67 : Try.τ 67 = some ⟨.func, 1, 8, [.nilFunc]⟩ := rfl
@[simp] theorem Try.τ68 : Try.τ 68 = some ⟨.int .u64, 1, 8, [.int .u64 0]⟩ := rfl
@[simp] theorem Try.τ69 : Try.τ 69 = some ⟨.func, 1, 8, [.nilFunc]⟩ := rfl
@[simp] theorem Try.τ70 : Try.τ 70 = some ⟨.func, 1, 8, [.nilFunc]⟩ := rfl
@[simp] theorem Try.τ71 : Try.τ 71 = some ⟨.array 4 4, 4, 4, [.bool false, .bool false, .bool false, .bool false]⟩ := rfl
@[simp] theorem Try.τ72 : Try.τ 72 = some ⟨.func, 1, 8, [.nilFunc]⟩ := rfl
@[simp] theorem Try.τ73 : Try.τ 73 = some ⟨.func, 1, 8, [.nilFunc]⟩ := rfl
@[simp] theorem Try.τ74 : Try.τ 74 = some ⟨.func, 1, 8, [.nilFunc]⟩ := rfl
@[simp] theorem Try.τ75 : Try.τ 75 = some ⟨.func, 1, 8, [.nilFunc]⟩ := rfl
@[simp] theorem Try.τ76 : Try.τ 76 = some ⟨.func, 1, 8, [.nilFunc]⟩ := rfl
@[simp] theorem Try.τ77 : Try.τ 77 = some ⟨.int .u64, 1, 8, [.int .u64 0]⟩ := rfl
@[simp] theorem Try.τ78 : Try.τ 78 = some ⟨.func, 1, 8, [.nilFunc]⟩ := rfl
@[simp] theorem Try.τ79 : Try.τ 79 = some ⟨.struct [(0, 17), (1, 17), (2, 17), (3, 9)], 4, 40, [.pointer none, .pointer none, .pointer none, .string { data := #[] }]⟩ := rfl
@[simp] theorem Try.τ80 : Try.τ 80 = some ⟨.struct [(0, 17), (1, 17), (2, 17), (3, 9)], 4, 40, [.pointer none, .pointer none, .pointer none, .string { data := #[] }]⟩ := rfl
@[simp] theorem Try.τ81 : Try.τ 81 = some ⟨.array 0 16, 0, 0, []⟩ := rfl
@[simp] theorem Try.τ82 : Try.τ 82 = some ⟨.struct [(0, 81)], 0, 0, []⟩ := rfl
@[simp] theorem Try.τ83 : Try.τ 83 = some ⟨.struct [(0, 81)], 0, 0, []⟩ := rfl
@[simp] theorem Try.τ84 : Try.τ 84 = some ⟨.int .u32, 1, 4, [.int .u32 0]⟩ := rfl
@[simp] theorem Try.τ85 : Try.τ 85 = some ⟨.int .u8, 1, 1, [.int .u8 0]⟩ := rfl
@[simp] theorem Try.τ86 : Try.τ 86 = some ⟨.int .u8, 1, 1, [.int .u8 0]⟩ := rfl
@[simp] theorem Try.τ87 : Try.τ 87 = some ⟨.func, 1, 8, [.nilFunc]⟩ := rfl
@[simp] theorem Try.τ88 : Try.τ 88 = some ⟨.ptr 5, 1, 8, [.pointer none]⟩ := rfl
@[simp] theorem Try.τ89 : Try.τ 89 = some ⟨.int .i32, 1, 4, [.int .i32 0]⟩ := rfl
@[simp] theorem Try.τ90 : Try.τ 90 = some ⟨.int .i32, 1, 4, [.int .i32 0]⟩ := rfl
@[simp] theorem Try.τ91 : Try.τ 91 = some ⟨.struct [(0, 12), (1, 12), (2, 84), (3, 85), (4, 5), (5, 5), (6, 86), (7, 87), (8, 88), (9, 89), (10, 90)], 11, 48, [.int .u64 0, .int .u64 0, .int .u32 0, .int .u8 0, .int .u8 0, .int .u8 0, .int .u8 0, .nilFunc, .pointer none, .int .i32 0, .int .i32 0]⟩ := rfl
@[simp] theorem Try.τ92 : Try.τ 92 = some ⟨.struct [(0, 12), (1, 12), (2, 84), (3, 85), (4, 5), (5, 5), (6, 86), (7, 87), (8, 88), (9, 89), (10, 90)], 11, 48, [.int .u64 0, .int .u64 0, .int .u32 0, .int .u8 0, .int .u8 0, .int .u8 0, .int .u8 0, .nilFunc, .pointer none, .int .i32 0, .int .i32 0]⟩ := rfl
set_option maxRecDepth 100000 in
theorem Try.ty1 : TyOk Try.prog 1 ⟨.func, 1, 8, [.nilFunc]⟩ := ⟨⟨Try.t1, _, by kernel_rfl, rfl, rfl, rfl, rfl, rfl, rfl⟩, ⟨_, Try.underlying1, ⟨_, _, _, rfl⟩⟩⟩
theorem Try.ty2 : TyOk Try.prog 2 ⟨.int .i64, 1, 8, [.int .i64 0]⟩ := ⟨⟨Try.t2, _, by kernel_rfl, rfl, rfl, rfl, rfl, rfl, rfl⟩, ⟨_, Try.underlying2, rfl⟩⟩
theorem Try.ty3 : TyOk Try.prog 3 ⟨.int .i64, 1, 8, [.int .i64 0]⟩ := ⟨⟨Try.t3, _, by kernel_rfl, rfl, rfl, rfl, rfl, rfl, rfl⟩, ⟨_, Try.underlying3, rfl⟩⟩
theorem Try.ty4 : TyOk Try.prog 4 ⟨.bool, 1, 1, [.bool false]⟩ := ⟨⟨Try.t4, _, by kernel_rfl, rfl, rfl, rfl, rfl, rfl, rfl⟩, ⟨_, Try.underlying4, rfl⟩⟩
theorem Try.ty5 : TyOk Try.prog 5 ⟨.int .u8, 1, 1, [.int .u8 0]⟩ := ⟨⟨Try.t5, _, by kernel_rfl, rfl, rfl, rfl, rfl, rfl, rfl⟩, ⟨_, Try.underlying5, rfl⟩⟩
theorem Try.ty6 : TyOk Try.prog 6 ⟨.int .u8, 1, 1, [.int .u8 0]⟩ := ⟨⟨Try.t6, _, by kernel_rfl, rfl, rfl, rfl, rfl, rfl, rfl⟩, ⟨_, Try.underlying6, rfl⟩⟩
theorem Try.ty7 : TyOk Try.prog 7 ⟨.struct [(0, 2), (1, 3), (2, 4), (3, 6)], 4, 24, [.int .i64 0, .int .i64 0, .bool false, .int .u8 0]⟩ := ⟨⟨Try.t7, _, by kernel_rfl, rfl, rfl, rfl, rfl, rfl, rfl⟩, ⟨_, Try.underlying7, ⟨_, rfl, rfl⟩⟩⟩
theorem Try.ty8 : TyOk Try.prog 8 ⟨.struct [(0, 2), (1, 3), (2, 4), (3, 6)], 4, 24, [.int .i64 0, .int .i64 0, .bool false, .int .u8 0]⟩ := ⟨⟨Try.t8, _, by kernel_rfl, rfl, rfl, rfl, rfl, rfl, rfl⟩, ⟨_, Try.underlying8, ⟨_, rfl, rfl⟩⟩⟩
theorem Try.ty9 : TyOk Try.prog 9 ⟨.string, 1, 16, [.string { data := #[] }]⟩ := ⟨⟨Try.t9, _, by kernel_rfl, rfl, rfl, rfl, rfl, rfl, rfl⟩, ⟨_, Try.underlying9, rfl⟩⟩
theorem Try.ty10 : TyOk Try.prog 10 ⟨.string, 1, 16, [.string { data := #[] }]⟩ := ⟨⟨Try.t10, _, by kernel_rfl, rfl, rfl, rfl, rfl, rfl, rfl⟩, ⟨_, Try.underlying10, rfl⟩⟩
theorem Try.ty11 : TyOk Try.prog 11 ⟨.string, 1, 16, [.string { data := #[] }]⟩ := ⟨⟨Try.t11, _, by kernel_rfl, rfl, rfl, rfl, rfl, rfl, rfl⟩, ⟨_, Try.underlying11, rfl⟩⟩
theorem Try.ty12 : TyOk Try.prog 12 ⟨.int .u64, 1, 8, [.int .u64 0]⟩ := ⟨⟨Try.t12, _, by kernel_rfl, rfl, rfl, rfl, rfl, rfl, rfl⟩, ⟨_, Try.underlying12, rfl⟩⟩
theorem Try.ty13 : TyOk Try.prog 13 ⟨.struct [(0, 9), (1, 12)], 2, 24, [.string { data := #[] }, .int .u64 0]⟩ := ⟨⟨Try.t13, _, by kernel_rfl, rfl, rfl, rfl, rfl, rfl, rfl⟩, ⟨_, Try.underlying13, ⟨_, rfl, rfl⟩⟩⟩
theorem Try.ty14 : TyOk Try.prog 14 ⟨.struct [(0, 9), (1, 12)], 2, 24, [.string { data := #[] }, .int .u64 0]⟩ := ⟨⟨Try.t14, _, by kernel_rfl, rfl, rfl, rfl, rfl, rfl, rfl⟩, ⟨_, Try.underlying14, ⟨_, rfl, rfl⟩⟩⟩
theorem Try.ty15 : TyOk Try.prog 15 ⟨.ptr 80, 1, 8, [.pointer none]⟩ := ⟨⟨Try.t15, _, by kernel_rfl, rfl, rfl, rfl, rfl, rfl, rfl⟩, ⟨_, Try.underlying15, rfl⟩⟩
theorem Try.ty16 : TyOk Try.prog 16 ⟨.ptr 83, 1, 8, [.pointer none]⟩ := ⟨⟨Try.t16, _, by kernel_rfl, rfl, rfl, rfl, rfl, rfl, rfl⟩, ⟨_, Try.underlying16, rfl⟩⟩
theorem Try.ty17 : TyOk Try.prog 17 ⟨.ptr 92, 1, 8, [.pointer none]⟩ := ⟨⟨Try.t17, _, by kernel_rfl, rfl, rfl, rfl, rfl, rfl, rfl⟩, ⟨_, Try.underlying17, rfl⟩⟩
theorem Try.ty18 : TyOk Try.prog 18 ⟨.struct [(0, 17)], 1, 8, [.pointer none]⟩ := ⟨⟨Try.t18, _, by kernel_rfl, rfl, rfl, rfl, rfl, rfl, rfl⟩, ⟨_, Try.underlying18, ⟨_, rfl, rfl⟩⟩⟩
theorem Try.ty19 : TyOk Try.prog 19 ⟨.struct [(0, 17)], 1, 8, [.pointer none]⟩ := ⟨⟨Try.t19, _, by kernel_rfl, rfl, rfl, rfl, rfl, rfl, rfl⟩, ⟨_, Try.underlying19, ⟨_, rfl, rfl⟩⟩⟩
theorem Try.ty20 : TyOk Try.prog 20 ⟨.iface, 1, 16, [.nilIface]⟩ := ⟨⟨Try.t20, _, by kernel_rfl, rfl, rfl, rfl, rfl, rfl, rfl⟩, ⟨_, Try.underlying20, ⟨_, rfl⟩⟩⟩
theorem Try.ty21 : TyOk Try.prog 21 ⟨.int .i32, 1, 4, [.int .i32 0]⟩ := ⟨⟨Try.t21, _, by kernel_rfl, rfl, rfl, rfl, rfl, rfl, rfl⟩, ⟨_, Try.underlying21, rfl⟩⟩
theorem Try.ty22 : TyOk Try.prog 22 ⟨.slice 24, 1, 24, [.slice none 0 0]⟩ := ⟨⟨Try.t22, _, by kernel_rfl, rfl, rfl, rfl, rfl, rfl, rfl⟩, ⟨_, Try.underlying22, rfl⟩⟩
theorem Try.ty23 : TyOk Try.prog 23 ⟨.struct [(0, 3), (1, 3), (2, 9), (3, 22)], 4, 56, [.int .i64 0, .int .i64 0, .string { data := #[] }, .slice none 0 0]⟩ := ⟨⟨Try.t23, _, by kernel_rfl, rfl, rfl, rfl, rfl, rfl, rfl⟩, ⟨_, Try.underlying23, ⟨_, rfl, rfl⟩⟩⟩
theorem Try.ty24 : TyOk Try.prog 24 ⟨.struct [(0, 3), (1, 3), (2, 9), (3, 22)], 4, 56, [.int .i64 0, .int .i64 0, .string { data := #[] }, .slice none 0 0]⟩ := ⟨⟨Try.t24, _, by kernel_rfl, rfl, rfl, rfl, rfl, rfl, rfl⟩, ⟨_, Try.underlying24, ⟨_, rfl, rfl⟩⟩⟩
theorem Try.ty25 : TyOk Try.prog 25 ⟨.func, 1, 8, [.nilFunc]⟩ := ⟨⟨Try.t25, _, by kernel_rfl, rfl, rfl, rfl, rfl, rfl, rfl⟩, ⟨_, Try.underlying25, ⟨_, _, _, rfl⟩⟩⟩
theorem Try.ty26 : TyOk Try.prog 26 ⟨.func, 1, 8, [.nilFunc]⟩ := ⟨⟨Try.t26, _, by kernel_rfl, rfl, rfl, rfl, rfl, rfl, rfl⟩, ⟨_, Try.underlying26, ⟨_, _, _, rfl⟩⟩⟩
theorem Try.ty27 : TyOk Try.prog 27 ⟨.slice 5, 1, 24, [.slice none 0 0]⟩ := ⟨⟨Try.t27, _, by kernel_rfl, rfl, rfl, rfl, rfl, rfl, rfl⟩, ⟨_, Try.underlying27, rfl⟩⟩
theorem Try.ty28 : TyOk Try.prog 28 ⟨.int .i64, 1, 8, [.int .i64 0]⟩ := ⟨⟨Try.t28, _, by kernel_rfl, rfl, rfl, rfl, rfl, rfl, rfl⟩, ⟨_, Try.underlying28, rfl⟩⟩
theorem Try.ty30 : TyOk Try.prog 30 ⟨.func, 1, 8, [.nilFunc]⟩ := ⟨⟨Try.t30, _, by kernel_rfl, rfl, rfl, rfl, rfl, rfl, rfl⟩, ⟨_, Try.underlying30, ⟨_, _, _, rfl⟩⟩⟩
theorem Try.ty32 : TyOk Try.prog 32 ⟨.func, 1, 8, [.nilFunc]⟩ := ⟨⟨Try.t32, _, by kernel_rfl, rfl, rfl, rfl, rfl, rfl, rfl⟩, ⟨_, Try.underlying32, ⟨_, _, _, rfl⟩⟩⟩
theorem Try.ty33 : TyOk Try.prog 33 ⟨.func, 1, 8, [.nilFunc]⟩ := ⟨⟨Try.t33, _, by kernel_rfl, rfl, rfl, rfl, rfl, rfl, rfl⟩, ⟨_, Try.underlying33, ⟨_, _, _, rfl⟩⟩⟩
theorem Try.ty34 : TyOk Try.prog 34 ⟨.func, 1, 8, [.nilFunc]⟩ := ⟨⟨Try.t34, _, by kernel_rfl, rfl, rfl, rfl, rfl, rfl, rfl⟩, ⟨_, Try.underlying34, ⟨_, _, _, rfl⟩⟩⟩
theorem Try.ty36 : TyOk Try.prog 36 ⟨.func, 1, 8, [.nilFunc]⟩ := ⟨⟨Try.t36, _, by kernel_rfl, rfl, rfl, rfl, rfl, rfl, rfl⟩, ⟨_, Try.underlying36, ⟨_, _, _, rfl⟩⟩⟩
theorem Try.ty37 : TyOk Try.prog 37 ⟨.func, 1, 8, [.nilFunc]⟩ := ⟨⟨Try.t37, _, by kernel_rfl, rfl, rfl, rfl, rfl, rfl, rfl⟩, ⟨_, Try.underlying37, ⟨_, _, _, rfl⟩⟩⟩
theorem Try.ty38 : TyOk Try.prog 38 ⟨.func, 1, 8, [.nilFunc]⟩ := ⟨⟨Try.t38, _, by kernel_rfl, rfl, rfl, rfl, rfl, rfl, rfl⟩, ⟨_, Try.underlying38, ⟨_, _, _, rfl⟩⟩⟩
theorem Try.ty39 : TyOk Try.prog 39 ⟨.func, 1, 8, [.nilFunc]⟩ := ⟨⟨Try.t39, _, by kernel_rfl, rfl, rfl, rfl, rfl, rfl, rfl⟩, ⟨_, Try.underlying39, ⟨_, _, _, rfl⟩⟩⟩
theorem Try.ty40 : TyOk Try.prog 40 ⟨.func, 1, 8, [.nilFunc]⟩ := ⟨⟨Try.t40, _, by kernel_rfl, rfl, rfl, rfl, rfl, rfl, rfl⟩, ⟨_, Try.underlying40, ⟨_, _, _, rfl⟩⟩⟩
theorem Try.ty41 : TyOk Try.prog 41 ⟨.func, 1, 8, [.nilFunc]⟩ := ⟨⟨Try.t41, _, by kernel_rfl, rfl, rfl, rfl, rfl, rfl, rfl⟩, ⟨_, Try.underlying41, ⟨_, _, _, rfl⟩⟩⟩
theorem Try.ty42 : TyOk Try.prog 42 ⟨.func, 1, 8, [.nilFunc]⟩ := ⟨⟨Try.t42, _, by kernel_rfl, rfl, rfl, rfl, rfl, rfl, rfl⟩, ⟨_, Try.underlying42, ⟨_, _, _, rfl⟩⟩⟩
theorem Try.ty43 : TyOk Try.prog 43 ⟨.func, 1, 8, [.nilFunc]⟩ := ⟨⟨Try.t43, _, by kernel_rfl, rfl, rfl, rfl, rfl, rfl, rfl⟩, ⟨_, Try.underlying43, ⟨_, _, _, rfl⟩⟩⟩
theorem Try.ty44 : TyOk Try.prog 44 ⟨.func, 1, 8, [.nilFunc]⟩ := ⟨⟨Try.t44, _, by kernel_rfl, rfl, rfl, rfl, rfl, rfl, rfl⟩, ⟨_, Try.underlying44, ⟨_, _, _, rfl⟩⟩⟩
theorem Try.ty45 : TyOk Try.prog 45 ⟨.slice 9, 1, 24, [.slice none 0 0]⟩ := ⟨⟨Try.t45, _, by kernel_rfl, rfl, rfl, rfl, rfl, rfl, rfl⟩, ⟨_, Try.underlying45, rfl⟩⟩
theorem Try.ty46 : TyOk Try.prog 46 ⟨.func, 1, 8, [.nilFunc]⟩ := ⟨⟨Try.t46, _, by kernel_rfl, rfl, rfl, rfl, rfl, rfl, rfl⟩, ⟨_, Try.underlying46, ⟨_, _, _, rfl⟩⟩⟩
theorem Try.ty47 : TyOk Try.prog 47 ⟨.func, 1, 8, [.nilFunc]⟩ := ⟨⟨Try.t47, _, by kernel_rfl, rfl, rfl, rfl, rfl, rfl, rfl⟩, ⟨_, Try.underlying47, ⟨_, _, _, rfl⟩⟩⟩
theorem Try.ty48 : TyOk Try.prog 48 ⟨.struct [(0, 47)], 1, 8, [.nilFunc]⟩ := ⟨⟨Try.t48, _, by kernel_rfl, rfl, rfl, rfl, rfl, rfl, rfl⟩, ⟨_, Try.underlying48, ⟨_, rfl, rfl⟩⟩⟩
theorem Try.ty49 : TyOk Try.prog 49 ⟨.struct [(0, 47)], 1, 8, [.nilFunc]⟩ := ⟨⟨Try.t49, _, by kernel_rfl, rfl, rfl, rfl, rfl, rfl, rfl⟩, ⟨_, Try.underlying49, ⟨_, rfl, rfl⟩⟩⟩
theorem Try.ty50 : TyOk Try.prog 50 ⟨.ptr 66, 1, 8, [.pointer none]⟩ := ⟨⟨Try.t50, _, by kernel_rfl, rfl, rfl, rfl, rfl, rfl, rfl⟩, ⟨_, Try.underlying50, rfl⟩⟩
theorem Try.ty51 : TyOk Try.prog 51 ⟨.func, 1, 8, [.nilFunc]⟩ := ⟨⟨Try.t51, _, by kernel_rfl, rfl, rfl, rfl, rfl, rfl, rfl⟩, ⟨_, Try.underlying51, ⟨_, _, _, rfl⟩⟩⟩
theorem Try.ty52 : TyOk Try.prog 52 ⟨.func, 1, 8, [.nilFunc]⟩ := ⟨⟨Try.t52, _, by kernel_rfl, rfl, rfl, rfl, rfl, rfl, rfl⟩, ⟨_, Try.underlying52, ⟨_, _, _, rfl⟩⟩⟩
theorem Try.ty54 : TyOk Try.prog 54 ⟨.func, 1, 8, [.nilFunc]⟩ := ⟨⟨Try.t54, _, by kernel_rfl, rfl, rfl, rfl, rfl, rfl, rfl⟩, ⟨_, Try.underlying54, ⟨_, _, _, rfl⟩⟩⟩
theorem Try.ty55 : TyOk Try.prog 55 ⟨.func, 1, 8, [.nilFunc]⟩ := ⟨⟨Try.t55, _, by kernel_rfl, rfl, rfl, rfl, rfl, rfl, rfl⟩, ⟨_, Try.underlying55, ⟨_, _, _, rfl⟩⟩⟩
theorem Try.ty56 : TyOk Try.prog 56 ⟨.ptr 58, 1, 8, [.pointer none]⟩ := ⟨⟨Try.t56, _, by kernel_rfl, rfl, rfl, rfl, rfl, rfl, rfl⟩, ⟨_, Try.underlying56, rfl⟩⟩
theorem Try.ty57 : TyOk Try.prog 57 ⟨.struct [(0, 27)], 1, 24, [.slice none 0 0]⟩ := ⟨⟨Try.t57, _, by kernel_rfl, rfl, rfl, rfl, rfl, rfl, rfl⟩, ⟨_, Try.underlying57, ⟨_, rfl, rfl⟩⟩⟩
theorem Try.ty58 : TyOk Try.prog 58 ⟨.struct [(0, 27)], 1, 24, [.slice none 0 0]⟩ := ⟨⟨Try.t58, _, by kernel_rfl, rfl, rfl, rfl, rfl, rfl, rfl⟩, ⟨_, Try.underlying58, ⟨_, rfl, rfl⟩⟩⟩
theorem Try.ty59 : TyOk Try.prog 59 ⟨.func, 1, 8, [.nilFunc]⟩ := ⟨⟨Try.t59, _, by kernel_rfl, rfl, rfl, rfl, rfl, rfl, rfl⟩, ⟨_, Try.underlying59, ⟨_, _, _, rfl⟩⟩⟩
theorem Try.ty60 : TyOk Try.prog 60 ⟨.ptr 62, 1, 8, [.pointer none]⟩ := ⟨⟨Try.t60, _, by kernel_rfl, rfl, rfl, rfl, rfl, rfl, rfl⟩, ⟨_, Try.underlying60, rfl⟩⟩
theorem Try.ty61 : TyOk Try.prog 61 ⟨.struct [(0, 27), (1, 3), (2, 4)], 3, 40, [.slice none 0 0, .int .i64 0, .bool false]⟩ := ⟨⟨Try.t61, _, by kernel_rfl, rfl, rfl, rfl, rfl, rfl, rfl⟩, ⟨_, Try.underlying61, ⟨_, rfl, rfl⟩⟩⟩
theorem Try.ty62 : TyOk Try.prog 62 ⟨.struct [(0, 27), (1, 3), (2, 4)], 3, 40, [.slice none 0 0, .int .i64 0, .bool false]⟩ := ⟨⟨Try.t62, _, by kernel_rfl, rfl, rfl, rfl, rfl, rfl, rfl⟩, ⟨_, Try.underlying62, ⟨_, rfl, rfl⟩⟩⟩
theorem Try.ty63 : TyOk Try.prog 63 ⟨.func, 1, 8, [.nilFunc]⟩ := ⟨⟨Try.t63, _, by kernel_rfl, rfl, rfl, rfl, rfl, rfl, rfl⟩, ⟨_, Try.underlying63, ⟨_, _, _, rfl⟩⟩⟩
theorem Try.ty64 : TyOk Try.prog 64 ⟨.func, 1, 8, [.nilFunc]⟩ := ⟨⟨Try.t64, _, by kernel_rfl, rfl, rfl, rfl, rfl, rfl, rfl⟩, ⟨_, Try.underlying64, ⟨_, _, _, rfl⟩⟩⟩
theorem Try.ty65 : TyOk Try.prog 65 ⟨.array 4 49, 4, 32, [.nilFunc, .nilFunc, .nilFunc, .nilFunc]⟩ := ⟨⟨Try.t65, _, by kernel_rfl, rfl, rfl, rfl, rfl, rfl, rfl⟩, ⟨_, Try.underlying65, rfl⟩⟩
theorem Try.ty66 : TyOk Try.prog 66 ⟨.array 4 49, 4, 32, [.nilFunc, .nilFunc, .nilFunc, .nilFunc]⟩ := ⟨⟨Try.t66, _, by kernel_rfl, rfl, rfl, rfl, rfl, rfl, rfl⟩, ⟨_, Try.underlying66, rfl⟩⟩
theorem Try.ty67 : TyOk Try.prog 67 ⟨.func, 1, 8, [.nilFunc]⟩ := ⟨⟨Try.t67, _, by kernel_rfl, rfl, rfl, rfl, rfl, rfl, rfl⟩, ⟨_, Try.underlying67, ⟨_, _, _, rfl⟩⟩⟩
theorem Try.ty68 : TyOk Try.prog 68 ⟨.int .u64, 1, 8, [.int .u64 0]⟩ := ⟨⟨Try.t68, _, by kernel_rfl, rfl, rfl, rfl, rfl, rfl, rfl⟩, ⟨_, Try.underlying68, rfl⟩⟩
theorem Try.ty69 : TyOk Try.prog 69 ⟨.func, 1, 8, [.nilFunc]⟩ := ⟨⟨Try.t69, _, by kernel_rfl, rfl, rfl, rfl, rfl, rfl, rfl⟩, ⟨_, Try.underlying69, ⟨_, _, _, rfl⟩⟩⟩
theorem Try.ty70 : TyOk Try.prog 70 ⟨.func, 1, 8, [.nilFunc]⟩ := ⟨⟨Try.t70, _, by kernel_rfl, rfl, rfl, rfl, rfl, rfl, rfl⟩, ⟨_, Try.underlying70, ⟨_, _, _, rfl⟩⟩⟩
theorem Try.ty71 : TyOk Try.prog 71 ⟨.array 4 4, 4, 4, [.bool false, .bool false, .bool false, .bool false]⟩ := ⟨⟨Try.t71, _, by kernel_rfl, rfl, rfl, rfl, rfl, rfl, rfl⟩, ⟨_, Try.underlying71, rfl⟩⟩
theorem Try.ty72 : TyOk Try.prog 72 ⟨.func, 1, 8, [.nilFunc]⟩ := ⟨⟨Try.t72, _, by kernel_rfl, rfl, rfl, rfl, rfl, rfl, rfl⟩, ⟨_, Try.underlying72, ⟨_, _, _, rfl⟩⟩⟩
theorem Try.ty73 : TyOk Try.prog 73 ⟨.func, 1, 8, [.nilFunc]⟩ := ⟨⟨Try.t73, _, by kernel_rfl, rfl, rfl, rfl, rfl, rfl, rfl⟩, ⟨_, Try.underlying73, ⟨_, _, _, rfl⟩⟩⟩
theorem Try.ty74 : TyOk Try.prog 74 ⟨.func, 1, 8, [.nilFunc]⟩ := ⟨⟨Try.t74, _, by kernel_rfl, rfl, rfl, rfl, rfl, rfl, rfl⟩, ⟨_, Try.underlying74, ⟨_, _, _, rfl⟩⟩⟩
theorem Try.ty75 : TyOk Try.prog 75 ⟨.func, 1, 8, [.nilFunc]⟩ := ⟨⟨Try.t75, _, by kernel_rfl, rfl, rfl, rfl, rfl, rfl, rfl⟩, ⟨_, Try.underlying75, ⟨_, _, _, rfl⟩⟩⟩
theorem Try.ty76 : TyOk Try.prog 76 ⟨.func, 1, 8, [.nilFunc]⟩ := ⟨⟨Try.t76, _, by kernel_rfl, rfl, rfl, rfl, rfl, rfl, rfl⟩, ⟨_, Try.underlying76, ⟨_, _, _, rfl⟩⟩⟩
theorem Try.ty77 : TyOk Try.prog 77 ⟨.int .u64, 1, 8, [.int .u64 0]⟩ := ⟨⟨Try.t77, _, by kernel_rfl, rfl, rfl, rfl, rfl, rfl, rfl⟩, ⟨_, Try.underlying77, rfl⟩⟩
theorem Try.ty78 : TyOk Try.prog 78 ⟨.func, 1, 8, [.nilFunc]⟩ := ⟨⟨Try.t78, _, by kernel_rfl, rfl, rfl, rfl, rfl, rfl, rfl⟩, ⟨_, Try.underlying78, ⟨_, _, _, rfl⟩⟩⟩
theorem Try.ty79 : TyOk Try.prog 79 ⟨.struct [(0, 17), (1, 17), (2, 17), (3, 9)], 4, 40, [.pointer none, .pointer none, .pointer none, .string { data := #[] }]⟩ := ⟨⟨Try.t79, _, by kernel_rfl, rfl, rfl, rfl, rfl, rfl, rfl⟩, ⟨_, Try.underlying79, ⟨_, rfl, rfl⟩⟩⟩
theorem Try.ty80 : TyOk Try.prog 80 ⟨.struct [(0, 17), (1, 17), (2, 17), (3, 9)], 4, 40, [.pointer none, .pointer none, .pointer none, .string { data := #[] }]⟩ := ⟨⟨Try.t80, _, by kernel_rfl, rfl, rfl, rfl, rfl, rfl, rfl⟩, ⟨_, Try.underlying80, ⟨_, rfl, rfl⟩⟩⟩
theorem Try.ty81 : TyOk Try.prog 81 ⟨.array 0 16, 0, 0, []⟩ := ⟨⟨Try.t81, _, by kernel_rfl, rfl, rfl, rfl, rfl, rfl, rfl⟩, ⟨_, Try.underlying81, rfl⟩⟩
theorem Try.ty82 : TyOk Try.prog 82 ⟨.struct [(0, 81)], 0, 0, []⟩ := ⟨⟨Try.t82, _, by kernel_rfl, rfl, rfl, rfl, rfl, rfl, rfl⟩, ⟨_, Try.underlying82, ⟨_, rfl, rfl⟩⟩⟩
theorem Try.ty83 : TyOk Try.prog 83 ⟨.struct [(0, 81)], 0, 0, []⟩ := ⟨⟨Try.t83, _, by kernel_rfl, rfl, rfl, rfl, rfl, rfl, rfl⟩, ⟨_, Try.underlying83, ⟨_, rfl, rfl⟩⟩⟩
theorem Try.ty84 : TyOk Try.prog 84 ⟨.int .u32, 1, 4, [.int .u32 0]⟩ := ⟨⟨Try.t84, _, by kernel_rfl, rfl, rfl, rfl, rfl, rfl, rfl⟩, ⟨_, Try.underlying84, rfl⟩⟩
theorem Try.ty85 : TyOk Try.prog 85 ⟨.int .u8, 1, 1, [.int .u8 0]⟩ := ⟨⟨Try.t85, _, by kernel_rfl, rfl, rfl, rfl, rfl, rfl, rfl⟩, ⟨_, Try.underlying85, rfl⟩⟩
theorem Try.ty86 : TyOk Try.prog 86 ⟨.int .u8, 1, 1, [.int .u8 0]⟩ := ⟨⟨Try.t86, _, by kernel_rfl, rfl, rfl, rfl, rfl, rfl, rfl⟩, ⟨_, Try.underlying86, rfl⟩⟩
theorem Try.ty87 : TyOk Try.prog 87 ⟨.func, 1, 8, [.nilFunc]⟩ := ⟨⟨Try.t87, _, by kernel_rfl, rfl, rfl, rfl, rfl, rfl, rfl⟩, ⟨_, Try.underlying87, ⟨_, _, _, rfl⟩⟩⟩
theorem Try.ty88 : TyOk Try.prog 88 ⟨.ptr 5, 1, 8, [.pointer none]⟩ := ⟨⟨Try.t88, _, by kernel_rfl, rfl, rfl, rfl, rfl, rfl, rfl⟩, ⟨_, Try.underlying88, rfl⟩⟩
theorem Try.ty89 : TyOk Try.prog 89 ⟨.int .i32, 1, 4, [.int .i32 0]⟩ := ⟨⟨Try.t89, _, by kernel_rfl, rfl, rfl, rfl, rfl, rfl, rfl⟩, ⟨_, Try.underlying89, rfl⟩⟩
theorem Try.ty90 : TyOk Try.prog 90 ⟨.int .i32, 1, 4, [.int .i32 0]⟩ := ⟨⟨Try.t90, _, by kernel_rfl, rfl, rfl, rfl, rfl, rfl, rfl⟩, ⟨_, Try.underlying90, rfl⟩⟩
theorem Try.ty91 : TyOk Try.prog 91 ⟨.struct [(0, 12), (1, 12), (2, 84), (3, 85), (4, 5), (5, 5), (6, 86), (7, 87), (8, 88), (9, 89), (10, 90)], 11, 48, [.int .u64 0, .int .u64 0, .int .u32 0, .int .u8 0, .int .u8 0, .int .u8 0, .int .u8 0, .nilFunc, .pointer none, .int .i32 0, .int .i32 0]⟩ := ⟨⟨Try.t91, _, by kernel_rfl, rfl, rfl, rfl, rfl, rfl, rfl⟩, ⟨_, Try.underlying91, ⟨_, rfl, rfl⟩⟩⟩
theorem Try.ty92 : TyOk Try.prog 92 ⟨.struct [(0, 12), (1, 12), (2, 84), (3, 85), (4, 5), (5, 5), (6, 86), (7, 87), (8, 88), (9, 89), (10, 90)], 11, 48, [.int .u64 0, .int .u64 0, .int .u32 0, .int .u8 0, .int .u8 0, .int .u8 0, .int .u8 0, .nilFunc, .pointer none, .int .i32 0, .int .i32 0]⟩ := ⟨⟨Try.t92, _, by kernel_rfl, rfl, rfl, rfl, rfl, rfl, rfl⟩, ⟨_, Try.underlying92, ⟨_, rfl, rfl⟩⟩⟩

theorem Try.tab : TabOk Try.prog Try.τ := by
  intro T e h
  unfold Try.τ at h
  split at h
  · cases h; exact Try.ty1
  · cases h; exact Try.ty2
  · cases h; exact Try.ty3
  · cases h; exact Try.ty4
  · cases h; exact Try.ty5
  · cases h; exact Try.ty6
  · cases h; exact Try.ty7
  · cases h; exact Try.ty8
  · cases h; exact Try.ty9
  · cases h; exact Try.ty10
  · cases h; exact Try.ty11
  · cases h; exact Try.ty12
  · cases h; exact Try.ty13
  · cases h; exact Try.ty14
  · cases h; exact Try.ty15
  · cases h; exact Try.ty16
  · cases h; exact Try.ty17
  · cases h; exact Try.ty18
  · cases h; exact Try.ty19
  · cases h; exact Try.ty20
  · cases h; exact Try.ty21
  · cases h; exact Try.ty22
  · cases h; exact Try.ty23
  · cases h; exact Try.ty24
  · cases h; exact Try.ty25
  · cases h; exact Try.ty26
  · cases h; exact Try.ty27
  · cases h; exact Try.ty28
  · cases h; exact Try.ty30
  · cases h; exact Try.ty32
  · cases h; exact Try.ty33
  · cases h; exact Try.ty34
  · cases h; exact Try.ty36
  · cases h; exact Try.ty37
  · cases h; exact Try.ty38
  · cases h; exact Try.ty39
  · cases h; exact Try.ty40
  · cases h; exact Try.ty41
  · cases h; exact Try.ty42
  · cases h; exact Try.ty43
  · cases h; exact Try.ty44
  · cases h; exact Try.ty45
  · cases h; exact Try.ty46
  · cases h; exact Try.ty47
  · cases h; exact Try.ty48
  · cases h; exact Try.ty49
  · cases h; exact Try.ty50
  · cases h; exact Try.ty51
  · cases h; exact Try.ty52
  · cases h; exact Try.ty54
  · cases h; exact Try.ty55
  · cases h; exact Try.ty56
  · cases h; exact Try.ty57
  · cases h; exact Try.ty58
  · cases h; exact Try.ty59
  · cases h; exact Try.ty60
  · cases h; exact Try.ty61
  · cases h; exact Try.ty62
  · cases h; exact Try.ty63
  · cases h; exact Try.ty64
  · cases h; exact Try.ty65
  · cases h; exact Try.ty66
  · cases h; exact Try.ty67
  · cases h; exact Try.ty68
  · cases h; exact Try.ty69
  · cases h; exact Try.ty70
  · cases h; exact Try.ty71
  · cases h; exact Try.ty72
  · cases h; exact Try.ty73
  · cases h; exact Try.ty74
  · cases h; exact Try.ty75
  · cases h; exact Try.ty76
  · cases h; exact Try.ty77
  · cases h; exact Try.ty78
  · cases h; exact Try.ty79
  · cases h; exact Try.ty80
  · cases h; exact Try.ty81
  · cases h; exact Try.ty82
  · cases h; exact Try.ty83
  · cases h; exact Try.ty84
  · cases h; exact Try.ty85
  · cases h; exact Try.ty86
  · cases h; exact Try.ty87
  · cases h; exact Try.ty88
  · cases h; exact Try.ty89
  · cases h; exact Try.ty90
  · cases h; exact Try.ty91
  · cases h; exact Try.ty92
  · cases h

theorem Try.mixed : Try.prog.follows .mixedOrders = true := by kernel_rfl

theorem Try.body3 : Body Try.prog 3 := ⟨Try.f3, _, Try.func3, rfl, by kernel_rfl⟩
theorem Try.body4 : Body Try.prog 4 := ⟨Try.f4, _, Try.func4, rfl, by kernel_rfl⟩
theorem Try.body5 : Body Try.prog 5 := ⟨Try.f5, _, Try.func5, rfl, by kernel_rfl⟩
theorem Try.body6 : Body Try.prog 6 := ⟨Try.f6, _, Try.func6, rfl, by kernel_rfl⟩
theorem Try.body7 : Body Try.prog 7 := ⟨Try.f7, _, Try.func7, rfl, by kernel_rfl⟩
theorem Try.body8 : Body Try.prog 8 := ⟨Try.f8, _, Try.func8, rfl, by kernel_rfl⟩
theorem Try.body9 : Body Try.prog 9 := ⟨Try.f9, _, Try.func9, rfl, by kernel_rfl⟩
theorem Try.body10 : Body Try.prog 10 := ⟨Try.f10, _, Try.func10, rfl, by kernel_rfl⟩
theorem Try.body11 : Body Try.prog 11 := ⟨Try.f11, _, Try.func11, rfl, by kernel_rfl⟩
theorem Try.body12 : Body Try.prog 12 := ⟨Try.f12, _, Try.func12, rfl, by kernel_rfl⟩
theorem Try.body13 : Body Try.prog 13 := ⟨Try.f13, _, Try.func13, rfl, by kernel_rfl⟩
theorem Try.body14 : Body Try.prog 14 := ⟨Try.f14, _, Try.func14, rfl, by kernel_rfl⟩
theorem Try.body15 : Body Try.prog 15 := ⟨Try.f15, _, Try.func15, rfl, by kernel_rfl⟩
theorem Try.body16 : Body Try.prog 16 := ⟨Try.f16, _, Try.func16, rfl, by kernel_rfl⟩
theorem Try.body17 : Body Try.prog 17 := ⟨Try.f17, _, Try.func17, rfl, by kernel_rfl⟩
theorem Try.body18 : Body Try.prog 18 := ⟨Try.f18, _, Try.func18, rfl, by kernel_rfl⟩
theorem Try.body19 : Body Try.prog 19 := ⟨Try.f19, _, Try.func19, rfl, by kernel_rfl⟩
theorem Try.body20 : Body Try.prog 20 := ⟨Try.f20, _, Try.func20, rfl, by kernel_rfl⟩
theorem Try.body21 : Body Try.prog 21 := ⟨Try.f21, _, Try.func21, rfl, by kernel_rfl⟩
theorem Try.body22 : Body Try.prog 22 := ⟨Try.f22, _, Try.func22, rfl, by kernel_rfl⟩
theorem Try.body23 : Body Try.prog 23 := ⟨Try.f23, _, Try.func23, rfl, by kernel_rfl⟩
theorem Try.body24 : Body Try.prog 24 := ⟨Try.f24, _, Try.func24, rfl, by kernel_rfl⟩
theorem Try.body25 : Body Try.prog 25 := ⟨Try.f25, _, Try.func25, rfl, by kernel_rfl⟩
theorem Try.body26 : Body Try.prog 26 := ⟨Try.f26, _, Try.func26, rfl, by kernel_rfl⟩
theorem Try.body27 : Body Try.prog 27 := ⟨Try.f27, _, Try.func27, rfl, by kernel_rfl⟩
theorem Try.body28 : Body Try.prog 28 := ⟨Try.f28, _, Try.func28, rfl, by kernel_rfl⟩
theorem Try.body29 : Body Try.prog 29 := ⟨Try.f29, _, Try.func29, rfl, by kernel_rfl⟩
theorem Try.body30 : Body Try.prog 30 := ⟨Try.f30, _, Try.func30, rfl, by kernel_rfl⟩
theorem Try.body31 : Body Try.prog 31 := ⟨Try.f31, _, Try.func31, rfl, by kernel_rfl⟩
theorem Try.body32 : Body Try.prog 32 := ⟨Try.f32, _, Try.func32, rfl, by kernel_rfl⟩
theorem Try.body33 : Body Try.prog 33 := ⟨Try.f33, _, Try.func33, rfl, by kernel_rfl⟩
theorem Try.body34 : Body Try.prog 34 := ⟨Try.f34, _, Try.func34, rfl, by kernel_rfl⟩
theorem Try.body35 : Body Try.prog 35 := ⟨Try.f35, _, Try.func35, rfl, by kernel_rfl⟩
theorem Try.body36 : Body Try.prog 36 := ⟨Try.f36, _, Try.func36, rfl, by kernel_rfl⟩
theorem Try.body37 : Body Try.prog 37 := ⟨Try.f37, _, Try.func37, rfl, by kernel_rfl⟩
theorem Try.body38 : Body Try.prog 38 := ⟨Try.f38, _, Try.func38, rfl, by kernel_rfl⟩
theorem Try.body39 : Body Try.prog 39 := ⟨Try.f39, _, Try.func39, rfl, by kernel_rfl⟩
theorem Try.body40 : Body Try.prog 40 := ⟨Try.f40, _, Try.func40, rfl, by kernel_rfl⟩
theorem Try.body41 : Body Try.prog 41 := ⟨Try.f41, _, Try.func41, rfl, by kernel_rfl⟩
theorem Try.body42 : Body Try.prog 42 := ⟨Try.f42, _, Try.func42, rfl, by kernel_rfl⟩
theorem Try.body43 : Body Try.prog 43 := ⟨Try.f43, _, Try.func43, rfl, by kernel_rfl⟩
theorem Try.body44 : Body Try.prog 44 := ⟨Try.f44, _, Try.func44, rfl, by kernel_rfl⟩
theorem Try.body45 : Body Try.prog 45 := ⟨Try.f45, _, Try.func45, rfl, by kernel_rfl⟩
theorem Try.body46 : Body Try.prog 46 := ⟨Try.f46, _, Try.func46, rfl, by kernel_rfl⟩
theorem Try.body47 : Body Try.prog 47 := ⟨Try.f47, _, Try.func47, rfl, by kernel_rfl⟩
theorem Try.body48 : Body Try.prog 48 := ⟨Try.f48, _, Try.func48, rfl, by kernel_rfl⟩
theorem Try.body49 : Body Try.prog 49 := ⟨Try.f49, _, Try.func49, rfl, by kernel_rfl⟩

end Go.Proofs.Ytnbanfpelgcmoaa
