/-
  The types of the seat, for the engine. Printed by seatgen.py.
-/
import Derived.Test.YtjfkeicmdaanbaaDoorRows
import Derived.Test.YtjfkeicmdaanbaaDoorK3
set_option linter.unusedVariables false
set_option linter.unusedSimpArgs false
set_option linter.unusedSectionVars false
namespace Go.Proofs.YtjfkeicmdaanbaaDoor
open Go.Xe

def Tryd.τ : Tab := fun T => match T with
  | 1 => some ⟨.func, 1, 8, [.nilFunc]⟩
  | 2 => some ⟨.int .i64, 1, 8, [.int .i64 0]⟩
  | 3 => some ⟨.int .i64, 1, 8, [.int .i64 0]⟩
  | 4 => some ⟨.bool, 1, 1, [.bool false]⟩
  | 5 => some ⟨.int .u8, 1, 1, [.int .u8 0]⟩
  | 6 => some ⟨.int .u8, 1, 1, [.int .u8 0]⟩
  | 7 => some ⟨.struct [(0, 2), (1, 3), (2, 4), (3, 6)], 4, 24, [.int .i64 0, .int .i64 0, .bool false, .int .u8 0]⟩
  | 8 => some ⟨.struct [(0, 2), (1, 3), (2, 4), (3, 6)], 4, 24, [.int .i64 0, .int .i64 0, .bool false, .int .u8 0]⟩
  | 9 => some ⟨.string, 1, 16, [.string { data := #[] }]⟩
  | 10 => some ⟨.string, 1, 16, [.string { data := #[] }]⟩
  | 11 => some ⟨.string, 1, 16, [.string { data := #[] }]⟩
  | 12 => some ⟨.int .u64, 1, 8, [.int .u64 0]⟩
  | 13 => some ⟨.struct [(0, 9), (1, 12)], 2, 24, [.string { data := #[] }, .int .u64 0]⟩
  | 14 => some ⟨.struct [(0, 9), (1, 12)], 2, 24, [.string { data := #[] }, .int .u64 0]⟩
  | 15 => some ⟨.ptr 141, 1, 8, [.pointer none]⟩
  | 16 => some ⟨.ptr 144, 1, 8, [.pointer none]⟩
  | 17 => some ⟨.ptr 153, 1, 8, [.pointer none]⟩
  | 18 => some ⟨.struct [(0, 17)], 1, 8, [.pointer none]⟩
  | 19 => some ⟨.struct [(0, 17)], 1, 8, [.pointer none]⟩
  | 20 => some ⟨.iface, 1, 16, [.nilIface]⟩
  | 21 => some ⟨.int .i32, 1, 4, [.int .i32 0]⟩
  | 22 => some ⟨.struct [(0, 3), (1, 3), (2, 3), (3, 3), (4, 3), (5, 3), (6, 3), (7, 3)], 8, 64, [.int .i64 0, .int .i64 0, .int .i64 0, .int .i64 0, .int .i64 0, .int .i64 0, .int .i64 0, .int .i64 0]⟩
  | 23 => some ⟨.struct [(0, 3), (1, 3), (2, 3), (3, 3), (4, 3), (5, 3), (6, 3), (7, 3)], 8, 64, [.int .i64 0, .int .i64 0, .int .i64 0, .int .i64 0, .int .i64 0, .int .i64 0, .int .i64 0, .int .i64 0]⟩
  | 24 => some ⟨.struct [(0, 3), (1, 3), (2, 3), (3, 3)], 4, 32, [.int .i64 0, .int .i64 0, .int .i64 0, .int .i64 0]⟩
  | 25 => some ⟨.struct [(0, 3), (1, 3), (2, 3), (3, 3)], 4, 32, [.int .i64 0, .int .i64 0, .int .i64 0, .int .i64 0]⟩
  | 26 => some ⟨.struct [(0, 3), (1, 3), (2, 3), (3, 3), (4, 3)], 5, 40, [.int .i64 0, .int .i64 0, .int .i64 0, .int .i64 0, .int .i64 0]⟩
  | 27 => some ⟨.struct [(0, 3), (1, 3), (2, 3), (3, 3), (4, 3)], 5, 40, [.int .i64 0, .int .i64 0, .int .i64 0, .int .i64 0, .int .i64 0]⟩
  | 28 => some ⟨.struct [(0, 3), (1, 3), (2, 3), (3, 3), (4, 3), (5, 3), (6, 3), (7, 3)], 8, 64, [.int .i64 0, .int .i64 0, .int .i64 0, .int .i64 0, .int .i64 0, .int .i64 0, .int .i64 0, .int .i64 0]⟩
  | 29 => some ⟨.struct [(0, 3), (1, 3), (2, 3), (3, 3), (4, 3), (5, 3), (6, 3), (7, 3)], 8, 64, [.int .i64 0, .int .i64 0, .int .i64 0, .int .i64 0, .int .i64 0, .int .i64 0, .int .i64 0, .int .i64 0]⟩
  | 30 => some ⟨.struct [(0, 3), (1, 3), (2, 3), (3, 3)], 4, 32, [.int .i64 0, .int .i64 0, .int .i64 0, .int .i64 0]⟩
  | 31 => some ⟨.struct [(0, 3), (1, 3), (2, 3), (3, 3)], 4, 32, [.int .i64 0, .int .i64 0, .int .i64 0, .int .i64 0]⟩
  | 32 => some ⟨.struct [(0, 3), (1, 3), (2, 3), (3, 3)], 4, 32, [.int .i64 0, .int .i64 0, .int .i64 0, .int .i64 0]⟩
  | 33 => some ⟨.struct [(0, 3), (1, 3), (2, 3), (3, 3)], 4, 32, [.int .i64 0, .int .i64 0, .int .i64 0, .int .i64 0]⟩
  | 34 => some ⟨.struct [(0, 3), (1, 3)], 2, 16, [.int .i64 0, .int .i64 0]⟩
  | 35 => some ⟨.struct [(0, 3), (1, 3)], 2, 16, [.int .i64 0, .int .i64 0]⟩
  | 36 => some ⟨.struct [(0, 3), (1, 3), (2, 3), (3, 3)], 4, 32, [.int .i64 0, .int .i64 0, .int .i64 0, .int .i64 0]⟩
  | 37 => some ⟨.struct [(0, 3), (1, 3), (2, 3), (3, 3)], 4, 32, [.int .i64 0, .int .i64 0, .int .i64 0, .int .i64 0]⟩
  | 38 => some ⟨.struct [(0, 3), (1, 3), (2, 3), (3, 3)], 4, 32, [.int .i64 0, .int .i64 0, .int .i64 0, .int .i64 0]⟩
  | 39 => some ⟨.struct [(0, 3), (1, 3), (2, 3), (3, 3)], 4, 32, [.int .i64 0, .int .i64 0, .int .i64 0, .int .i64 0]⟩
  | 40 => some ⟨.struct [(0, 3), (1, 3), (2, 3), (3, 3), (4, 3), (5, 3)], 6, 48, [.int .i64 0, .int .i64 0, .int .i64 0, .int .i64 0, .int .i64 0, .int .i64 0]⟩
  | 41 => some ⟨.struct [(0, 3), (1, 3), (2, 3), (3, 3), (4, 3), (5, 3)], 6, 48, [.int .i64 0, .int .i64 0, .int .i64 0, .int .i64 0, .int .i64 0, .int .i64 0]⟩
  | 42 => some ⟨.struct [(0, 3), (1, 4)], 2, 16, [.int .i64 0, .bool false]⟩
  | 43 => some ⟨.struct [(0, 3), (1, 4)], 2, 16, [.int .i64 0, .bool false]⟩
  | 44 => some ⟨.struct [(0, 3), (1, 3)], 2, 16, [.int .i64 0, .int .i64 0]⟩
  | 45 => some ⟨.struct [(0, 3), (1, 3)], 2, 16, [.int .i64 0, .int .i64 0]⟩
  | 46 => some ⟨.struct [(0, 3), (1, 3), (2, 3), (3, 3), (4, 23), (12, 25), (16, 27), (21, 29), (29, 31), (33, 33), (37, 35), (39, 37), (43, 39), (47, 41), (53, 43), (55, 45)], 57, 456, [.int .i64 0, .int .i64 0, .int .i64 0, .int .i64 0, .int .i64 0, .int .i64 0, .int .i64 0, .int .i64 0, .int .i64 0, .int .i64 0, .int .i64 0, .int .i64 0, .int .i64 0, .int .i64 0, .int .i64 0, .int .i64 0, .int .i64 0, .int .i64 0, .int .i64 0, .int .i64 0, .int .i64 0, .int .i64 0, .int .i64 0, .int .i64 0, .int .i64 0, .int .i64 0, .int .i64 0, .int .i64 0, .int .i64 0, .int .i64 0, .int .i64 0, .int .i64 0, .int .i64 0, .int .i64 0, .int .i64 0, .int .i64 0, .int .i64 0, .int .i64 0, .int .i64 0, .int .i64 0, .int .i64 0, .int .i64 0, .int .i64 0, .int .i64 0, .int .i64 0, .int .i64 0, .int .i64 0, .int .i64 0, .int .i64 0, .int .i64 0, .int .i64 0, .int .i64 0, .int .i64 0, .int .i64 0, .bool false, .int .i64 0, .int .i64 0]⟩
  | 47 => some ⟨.struct [(0, 3), (1, 3), (2, 3), (3, 3), (4, 23), (12, 25), (16, 27), (21, 29), (29, 31), (33, 33), (37, 35), (39, 37), (43, 39), (47, 41), (53, 43), (55, 45)], 57, 456, [.int .i64 0, .int .i64 0, .int .i64 0, .int .i64 0, .int .i64 0, .int .i64 0, .int .i64 0, .int .i64 0, .int .i64 0, .int .i64 0, .int .i64 0, .int .i64 0, .int .i64 0, .int .i64 0, .int .i64 0, .int .i64 0, .int .i64 0, .int .i64 0, .int .i64 0, .int .i64 0, .int .i64 0, .int .i64 0, .int .i64 0, .int .i64 0, .int .i64 0, .int .i64 0, .int .i64 0, .int .i64 0, .int .i64 0, .int .i64 0, .int .i64 0, .int .i64 0, .int .i64 0, .int .i64 0, .int .i64 0, .int .i64 0, .int .i64 0, .int .i64 0, .int .i64 0, .int .i64 0, .int .i64 0, .int .i64 0, .int .i64 0, .int .i64 0, .int .i64 0, .int .i64 0, .int .i64 0, .int .i64 0, .int .i64 0, .int .i64 0, .int .i64 0, .int .i64 0, .int .i64 0, .int .i64 0, .bool false, .int .i64 0, .int .i64 0]⟩
  | 48 => some ⟨.func, 1, 8, [.nilFunc]⟩
  | 49 => some ⟨.int .i64, 1, 8, [.int .i64 0]⟩
  | 50 => some ⟨.func, 1, 8, [.nilFunc]⟩
  | 51 => some ⟨.func, 1, 8, [.nilFunc]⟩
  | 52 => some ⟨.func, 1, 8, [.nilFunc]⟩
  | 53 => some ⟨.slice 5, 1, 24, [.slice none 0 0]⟩
  | 55 => some ⟨.func, 1, 8, [.nilFunc]⟩
  | 57 => some ⟨.func, 1, 8, [.nilFunc]⟩
  | 58 => some ⟨.func, 1, 8, [.nilFunc]⟩
  | 59 => some ⟨.slice 61, 1, 24, [.slice none 0 0]⟩
  | 60 => some ⟨.struct [(0, 3), (1, 3), (2, 9), (3, 59)], 4, 56, [.int .i64 0, .int .i64 0, .string { data := #[] }, .slice none 0 0]⟩
  | 61 => some ⟨.struct [(0, 3), (1, 3), (2, 9), (3, 59)], 4, 56, [.int .i64 0, .int .i64 0, .string { data := #[] }, .slice none 0 0]⟩
  | 63 => some ⟨.func, 1, 8, [.nilFunc]⟩
  | 64 => some ⟨.slice 3, 1, 24, [.slice none 0 0]⟩
  | 65 => some ⟨.func, 1, 8, [.nilFunc]⟩
  | 66 => some ⟨.func, 1, 8, [.nilFunc]⟩
  | 67 => some ⟨.func, 1, 8, [.nilFunc]⟩
  | 68 => some ⟨.func, 1, 8, [.nilFunc]⟩
  | 69 => some ⟨.func, 1, 8, [.nilFunc]⟩
  | 71 => some ⟨.func, 1, 8, [.nilFunc]⟩
  | 72 => some ⟨.func, 1, 8, [.nilFunc]⟩
  | 73 => some ⟨.func, 1, 8, [.nilFunc]⟩
  | 74 => some ⟨.func, 1, 8, [.nilFunc]⟩
  | 75 => some ⟨.func, 1, 8, [.nilFunc]⟩
  | 76 => some ⟨.func, 1, 8, [.nilFunc]⟩
  | 77 => some ⟨.func, 1, 8, [.nilFunc]⟩
  | 78 => some ⟨.func, 1, 8, [.nilFunc]⟩
  | 79 => some ⟨.func, 1, 8, [.nilFunc]⟩
  | 80 => some ⟨.func, 1, 8, [.nilFunc]⟩
  | 81 => some ⟨.slice 88, 1, 24, [.slice none 0 0]⟩
  | 82 => some ⟨.func, 1, 8, [.nilFunc]⟩
  | 83 => some ⟨.ptr 47, 1, 8, [.pointer none]⟩
  | 84 => some ⟨.ptr 3, 1, 8, [.pointer none]⟩
  | 85 => some ⟨.struct [(0, 3), (1, 3)], 2, 16, [.int .i64 0, .int .i64 0]⟩
  | 86 => some ⟨.struct [(0, 3), (1, 3)], 2, 16, [.int .i64 0, .int .i64 0]⟩
  | 87 => some ⟨.struct [(0, 84), (1, 86)], 3, 24, [.pointer none, .int .i64 0, .int .i64 0]⟩
  | 88 => some ⟨.struct [(0, 84), (1, 86)], 3, 24, [.pointer none, .int .i64 0, .int .i64 0]⟩
  | 89 => some ⟨.struct [(0, 81), (1, 48)], 2, 32, [.slice none 0 0, .nilFunc]⟩
  | 90 => some ⟨.struct [(0, 81), (1, 48)], 2, 32, [.slice none 0 0, .nilFunc]⟩
  | 92 => some ⟨.func, 1, 8, [.nilFunc]⟩
  | 93 => some ⟨.func, 1, 8, [.nilFunc]⟩
  | 94 => some ⟨.func, 1, 8, [.nilFunc]⟩
  | 95 => some ⟨.ptr 97, 1, 8, [.pointer none]⟩
  | 96 => some ⟨.struct [(0, 53)], 1, 24, [.slice none 0 0]⟩
  | 97 => some ⟨.struct [(0, 53)], 1, 24, [.slice none 0 0]⟩
  | 98 => some ⟨.func, 1, 8, [.nilFunc]⟩
  | 99 => some ⟨.func, 1, 8, [.nilFunc]⟩
  | 100 => some ⟨.func, 1, 8, [.nilFunc]⟩
  | 101 => some ⟨.struct [(0, 100)], 1, 8, [.nilFunc]⟩
  | 102 => some ⟨.struct [(0, 100)], 1, 8, [.nilFunc]⟩
  | 103 => some ⟨.ptr 130, 1, 8, [.pointer none]⟩
  | 104 => some ⟨.func, 1, 8, [.nilFunc]⟩
  | 105 => some ⟨.func, 1, 8, [.nilFunc]⟩
  | 106 => some ⟨.func, 1, 8, [.nilFunc]⟩
  | 107 => some ⟨.func, 1, 8, [.nilFunc]⟩
  | 108 => some ⟨.func, 1, 8, [.nilFunc]⟩
  | 109 => some ⟨.func, 1, 8, [.nilFunc]⟩
  | 110 => some ⟨.ptr 23, 1, 8, [.pointer none]⟩
  | 111 => some ⟨.ptr 25, 1, 8, [.pointer none]⟩
  | 112 => some ⟨.ptr 27, 1, 8, [.pointer none]⟩
  | 113 => some ⟨.ptr 29, 1, 8, [.pointer none]⟩
  | 114 => some ⟨.ptr 31, 1, 8, [.pointer none]⟩
  | 115 => some ⟨.ptr 33, 1, 8, [.pointer none]⟩
  | 116 => some ⟨.ptr 35, 1, 8, [.pointer none]⟩
  | 117 => some ⟨.ptr 37, 1, 8, [.pointer none]⟩
  | 118 => some ⟨.ptr 39, 1, 8, [.pointer none]⟩
  | 119 => some ⟨.ptr 41, 1, 8, [.pointer none]⟩
  | 120 => some ⟨.ptr 122, 1, 8, [.pointer none]⟩
  | 121 => some ⟨.struct [(0, 53), (1, 3), (2, 4)], 3, 40, [.slice none 0 0, .int .i64 0, .bool false]⟩
  | 122 => some ⟨.struct [(0, 53), (1, 3), (2, 4)], 3, 40, [.slice none 0 0, .int .i64 0, .bool false]⟩
  | 123 => some ⟨.func, 1, 8, [.nilFunc]⟩
  | 124 => some ⟨.func, 1, 8, [.nilFunc]⟩
  | 125 => some ⟨.int .u64, 1, 8, [.int .u64 0]⟩
  | 126 => some ⟨.func, 1, 8, [.nilFunc]⟩
  | 128 => some ⟨.func, 1, 8, [.nilFunc]⟩
  | 129 => some ⟨.array 4 102, 4, 32, [.nilFunc, .nilFunc, .nilFunc, .nilFunc]⟩
  | 130 => some ⟨.array 4 102, 4, 32, [.nilFunc, .nilFunc, .nilFunc, .nilFunc]⟩
  | 131 => some ⟨.func, 1, 8, [.nilFunc]⟩
  | 132 => some ⟨.func, 1, 8, [.nilFunc]⟩
  | 133 => some ⟨.func, 1, 8, [.nilFunc]⟩
  | 134 => some ⟨.func, 1, 8, [.nilFunc]⟩
  | 135 => some ⟨.func, 1, 8, [.nilFunc]⟩
  | 136 => some ⟨.func, 1, 8, [.nilFunc]⟩
  | 137 => some ⟨.int .u64, 1, 8, [.int .u64 0]⟩
  | 138 => some ⟨.array 4 4, 4, 4, [.bool false, .bool false, .bool false, .bool false]⟩
  | 139 => some ⟨.func, 1, 8, [.nilFunc]⟩
  | 140 => some ⟨.struct [(0, 17), (1, 17), (2, 17), (3, 9)], 4, 40, [.pointer none, .pointer none, .pointer none, .string { data := #[] }]⟩
  | 141 => some ⟨.struct [(0, 17), (1, 17), (2, 17), (3, 9)], 4, 40, [.pointer none, .pointer none, .pointer none, .string { data := #[] }]⟩
  | 142 => some ⟨.array 0 16, 0, 0, []⟩
  | 143 => some ⟨.struct [(0, 142)], 0, 0, []⟩
  | 144 => some ⟨.struct [(0, 142)], 0, 0, []⟩
  | 145 => some ⟨.int .u32, 1, 4, [.int .u32 0]⟩
  | 146 => some ⟨.int .u8, 1, 1, [.int .u8 0]⟩
  | 147 => some ⟨.int .u8, 1, 1, [.int .u8 0]⟩
  | 148 => some ⟨.func, 1, 8, [.nilFunc]⟩
  | 149 => some ⟨.ptr 5, 1, 8, [.pointer none]⟩
  | 150 => some ⟨.int .i32, 1, 4, [.int .i32 0]⟩
  | 151 => some ⟨.int .i32, 1, 4, [.int .i32 0]⟩
  | 152 => some ⟨.struct [(0, 12), (1, 12), (2, 145), (3, 146), (4, 5), (5, 5), (6, 147), (7, 148), (8, 149), (9, 150), (10, 151)], 11, 48, [.int .u64 0, .int .u64 0, .int .u32 0, .int .u8 0, .int .u8 0, .int .u8 0, .int .u8 0, .nilFunc, .pointer none, .int .i32 0, .int .i32 0]⟩
  | 153 => some ⟨.struct [(0, 12), (1, 12), (2, 145), (3, 146), (4, 5), (5, 5), (6, 147), (7, 148), (8, 149), (9, 150), (10, 151)], 11, 48, [.int .u64 0, .int .u64 0, .int .u32 0, .int .u8 0, .int .u8 0, .int .u8 0, .int .u8 0, .nilFunc, .pointer none, .int .i32 0, .int .i32 0]⟩
  | _ => none

@[simp] theorem Tryd.τ1 : Tryd.τ 1 = some ⟨.func, 1, 8, [.nilFunc]⟩ := rfl
@[simp] theorem Tryd.τ2 : Tryd.τ 2 = some ⟨.int .i64, 1, 8, [.int .i64 0]⟩ := rfl
@[simp] theorem Tryd.τ3 : Tryd.τ 3 = some ⟨.int .i64, 1, 8, [.int .i64 0]⟩ := rfl
@[simp] theorem Tryd.τ4 : Tryd.τ 4 = some ⟨.bool, 1, 1, [.bool false]⟩ := rfl
@[simp] theorem Tryd.τ5 : Tryd.τ 5 = some ⟨.int .u8, 1, 1, [.int .u8 0]⟩ := rfl
@[simp] theorem Tryd.τ6 : Tryd.τ 6 = some ⟨.int .u8, 1, 1, [.int .u8 0]⟩ := rfl
@[simp] theorem Tryd.τ7 : Tryd.τ 7 = some ⟨.struct [(0, 2), (1, 3), (2, 4), (3, 6)], 4, 24, [.int .i64 0, .int .i64 0, .bool false, .int .u8 0]⟩ := rfl
@[simp] theorem Tryd.τ8 : Tryd.τ 8 = some ⟨.struct [(0, 2), (1, 3), (2, 4), (3, 6)], 4, 24, [.int .i64 0, .int .i64 0, .bool false, .int .u8 0]⟩ := rfl
@[simp] theorem Tryd.τ9 : Tryd.τ 9 = some ⟨.string, 1, 16, [.string { data := #[] }]⟩ := rfl
@[simp] theorem Tryd.τ10 : Tryd.τ 10 = some ⟨.string, 1, 16, [.string { data := #[] }]⟩ := rfl
@[simp] theorem Tryd.τ11 : Tryd.τ 11 = some ⟨.string, 1, 16, [.string { data := #[] }]⟩ := rfl
@[simp] theorem Tryd.τ12 : Tryd.τ 12 = some ⟨.int .u64, 1, 8, [.int .u64 0]⟩ := rfl
@[simp] theorem Tryd.τ13 : Tryd.τ 13 = some ⟨.struct [(0, 9), (1, 12)], 2, 24, [.string { data := #[] }, .int .u64 0]⟩ := rfl
@[simp] theorem Tryd.τ14 : Tryd.τ 14 = some ⟨.struct [(0, 9), (1, 12)], 2, 24, [.string { data := #[] }, .int .u64 0]⟩ := rfl
@[simp] theorem Tryd.τ15 : Tryd.τ 15 = some ⟨.ptr 141, 1, 8, [.pointer none]⟩ := rfl
@[simp] theorem Tryd.τ16 : Tryd.τ 16 = some ⟨.ptr 144, 1, 8, [.pointer none]⟩ := rfl
@[simp] theorem Tryd.τ17 : Tryd.τ 17 = some ⟨.ptr 153, 1, 8, [.pointer none]⟩ := rfl
@[simp] theorem Tryd.τ18 : Tryd.τ 18 = some ⟨.struct [(0, 17)], 1, 8, [.pointer none]⟩ := rfl
@[simp] theorem Tryd.τ19 : Tryd.τ 19 = some ⟨.struct [(0, 17)], 1, 8, [.pointer none]⟩ := rfl
@[simp] theorem Tryd.τ20 : Tryd.τ 20 = some ⟨.iface, 1, 16, [.nilIface]⟩ := rfl
@[simp] theorem Tryd.τ21 : Tryd.τ 21 = some ⟨.int .i32, 1, 4, [.int .i32 0]⟩ := rfl
@[simp] theorem Tryd.τ22 : Tryd.τ 22 = some ⟨.struct [(0, 3), (1, 3), (2, 3), (3, 3), (4, 3), (5, 3), (6, 3), (7, 3)], 8, 64, [.int .i64 0, .int .i64 0, .int .i64 0, .int .i64 0, .int .i64 0, .int .i64 0, .int .i64 0, .int .i64 0]⟩ := rfl
@[simp] theorem Tryd.τ23 : Tryd.τ 23 = some ⟨.struct [(0, 3), (1, 3), (2, 3), (3, 3), (4, 3), (5, 3), (6, 3), (7, 3)], 8, 64, [.int .i64 0, .int .i64 0, .int .i64 0, .int .i64 0, .int .i64 0, .int .i64 0, .int .i64 0, .int .i64 0]⟩ := rfl
@[simp] theorem Tryd.τ24 : Tryd.τ 24 = some ⟨.struct [(0, 3), (1, 3), (2, 3), (3, 3)], 4, 32, [.int .i64 0, .int .i64 0, .int .i64 0, .int .i64 0]⟩ := rfl
@[simp] theorem Tryd.τ25 : Tryd.τ 25 = some ⟨.struct [(0, 3), (1, 3), (2, 3), (3, 3)], 4, 32, [.int .i64 0, .int .i64 0, .int .i64 0, .int .i64 0]⟩ := rfl
@[simp] theorem Tryd.τ26 : Tryd.τ 26 = some ⟨.struct [(0, 3), (1, 3), (2, 3), (3, 3), (4, 3)], 5, 40, [.int .i64 0, .int .i64 0, .int .i64 0, .int .i64 0, .int .i64 0]⟩ := rfl
@[simp] theorem Tryd.τ27 : Tryd.τ 27 = some ⟨.struct [(0, 3), (1, 3), (2, 3), (3, 3), (4, 3)], 5, 40, [.int .i64 0, .int .i64 0, .int .i64 0, .int .i64 0, .int .i64 0]⟩ := rfl
@[simp] theorem Tryd.τ28 : Tryd.τ 28 = some ⟨.struct [(0, 3), (1, 3), (2, 3), (3, 3), (4, 3), (5, 3), (6, 3), (7, 3)], 8, 64, [.int .i64 0, .int .i64 0, .int .i64 0, .int .i64 0, .int .i64 0, .int .i64 0, .int .i64 0, .int .i64 0]⟩ := rfl
@[simp] theorem Tryd.τ29 : Tryd.τ 29 = some ⟨.struct [(0, 3), (1, 3), (2, 3), (3, 3), (4, 3), (5, 3), (6, 3), (7, 3)], 8, 64, [.int .i64 0, .int .i64 0, .int .i64 0, .int .i64 0, .int .i64 0, .int .i64 0, .int .i64 0, .int .i64 0]⟩ := rfl
@[simp] theorem Tryd.τ30 : Tryd.τ 30 = some ⟨.struct [(0, 3), (1, 3), (2, 3), (3, 3)], 4, 32, [.int .i64 0, .int .i64 0, .int .i64 0, .int .i64 0]⟩ := rfl
@[simp] theorem Tryd.τ31 : Tryd.τ 31 = some ⟨.struct [(0, 3), (1, 3), (2, 3), (3, 3)], 4, 32, [.int .i64 0, .int .i64 0, .int .i64 0, .int .i64 0]⟩ := rfl
@[simp] theorem Tryd.τ32 : Tryd.τ 32 = some ⟨.struct [(0, 3), (1, 3), (2, 3), (3, 3)], 4, 32, [.int .i64 0, .int .i64 0, .int .i64 0, .int .i64 0]⟩ := rfl
@[simp] theorem Tryd.τ33 : Tryd.τ 33 = some ⟨.struct [(0, 3), (1, 3), (2, 3), (3, 3)], 4, 32, [.int .i64 0, .int .i64 0, .int .i64 0, .int .i64 0]⟩ := rfl
@[simp] theorem Tryd.τ34 : Tryd.τ 34 = some ⟨.struct [(0, 3), (1, 3)], 2, 16, [.int .i64 0, .int .i64 0]⟩ := rfl
@[simp] theorem Tryd.τ35 : Tryd.τ 35 = some ⟨.struct [(0, 3), (1, 3)], 2, 16, [.int .i64 0, .int .i64 0]⟩ := rfl
@[simp] theorem Tryd.τ36 : Tryd.τ 36 = some ⟨.struct [(0, 3), (1, 3), (2, 3), (3, 3)], 4, 32, [.int .i64 0, .int .i64 0, .int .i64 0, .int .i64 0]⟩ := rfl
@[simp] theorem Tryd.τ37 : Tryd.τ 37 = some ⟨.struct [(0, 3), (1, 3), (2, 3), (3, 3)], 4, 32, [.int .i64 0, .int .i64 0, .int .i64 0, .int .i64 0]⟩ := rfl
@[simp] theorem Tryd.τ38 : Tryd.τ 38 = some ⟨.struct [(0, 3), (1, 3), (2, 3), (3, 3)], 4, 32, [.int .i64 0, .int .i64 0, .int .i64 0, .int .i64 0]⟩ := rfl
@[simp] theorem Tryd.τ39 : Tryd.τ 39 = some ⟨.struct [(0, 3), (1, 3), (2, 3), (3, 3)], 4, 32, [.int .i64 0, .int .i64 0, .int .i64 0, .int .i64 0]⟩ := rfl
@[simp] theorem Tryd.τ40 : Tryd.τ 40 = some ⟨.struct [(0, 3), (1, 3), (2, 3), (3, 3), (4, 3), (5, 3)], 6, 48, [.int .i64 0, .int .i64 0, .int .i64 0, .int .i64 0, .int .i64 0, .int .i64 0]⟩ := rfl
@[simp] theorem Tryd.τ41 : Tryd.τ 41 = some ⟨.struct [(0, 3), (1, 3), (2, 3), (3, 3), (4, 3), (5, 3)], 6, 48, [.int .i64 0, .int .i64 0, .int .i64 0, .int .i64 0, .int .i64 0, .int .i64 0]⟩ := rfl
@[simp] theorem Tryd.τ42 : Tryd.τ 42 = some ⟨.struct [(0, 3), (1, 4)], 2, 16, [.int .i64 0, .bool false]⟩ := rfl
@[simp] theorem Tryd.τ43 : Tryd.τ 43 = some ⟨.struct [(0, 3), (1, 4)], 2, 16, [.int .i64 0, .bool false]⟩ := rfl
@[simp] theorem Tryd.τ44 : Tryd.τ 44 = some ⟨.struct [(0, 3), (1, 3)], 2, 16, [.int .i64 0, .int .i64 0]⟩ := rfl
@[simp] theorem Tryd.τ45 : Tryd.τ 45 = some ⟨.struct [(0, 3), (1, 3)], 2, 16, [.int .i64 0, .int .i64 0]⟩ := rfl
@[simp] theorem Tryd.τ46 : Tryd.τ 46 = some ⟨.struct [(0, 3), (1, 3), (2, 3), (3, 3), (4, 23), (12, 25), (16, 27), (21, 29), (29, 31), (33, 33), (37, 35), (39, 37), (43, 39), (47, 41), (53, 43), (55, 45)], 57, 456, [.int .i64 0, .int .i64 0, .int .i64 0, .int .i64 0, .int .i64 0, .int .i64 0, .int .i64 0, .int .i64 0, .int .i64 0, .int .i64 0, .int .i64 0, .int .i64 0, .int .i64 0, .int .i64 0, .int .i64 0, .int .i64 0, .int .i64 0, .int .i64 0, .int .i64 0, .int .i64 0, .int .i64 0, .int .i64 0, .int .i64 0, .int .i64 0, .int .i64 0, .int .i64 0, .int .i64 0, .int .i64 0, .int .i64 0, .int .i64 0, .int .i64 0, .int .i64 0, .int .i64 0, .int .i64 0, .int .i64 0, .int .i64 0, .int .i64 0, .int .i64 0, .int .i64 0, .int .i64 0, .int .i64 0, .int .i64 0, .int .i64 0, .int .i64 0, .int .i64 0, .int .i64 0, .int .i64 0, .int .i64 0, .int .i64 0, .int .i64 0, .int .i64 0, .int .i64 0, .int .i64 0, .int .i64 0, .bool false, .int .i64 0, .int .i64 0]⟩ := rfl
@[simp] theorem Tryd.τ47 : Tryd.τ 47 = some ⟨.struct [(0, 3), (1, 3), (2, 3), (3, 3), (4, 23), (12, 25), (16, 27), (21, 29), (29, 31), (33, 33), (37, 35), (39, 37), (43, 39), (47, 41), (53, 43), (55, 45)], 57, 456, [.int .i64 0, .int .i64 0, .int .i64 0, .int .i64 0, .int .i64 0, .int .i64 0, .int .i64 0, .int .i64 0, .int .i64 0, .int .i64 0, .int .i64 0, .int .i64 0, .int .i64 0, .int .i64 0, .int .i64 0, .int .i64 0, .int .i64 0, .int .i64 0, .int .i64 0, .int .i64 0, .int .i64 0, .int .i64 0, .int .i64 0, .int .i64 0, .int .i64 0, .int .i64 0, .int .i64 0, .int .i64 0, .int .i64 0, .int .i64 0, .int .i64 0, .int .i64 0, .int .i64 0, .int .i64 0, .int .i64 0, .int .i64 0, .int .i64 0, .int .i64 0, .int .i64 0, .int .i64 0, .int .i64 0, .int .i64 0, .int .i64 0, .int .i64 0, .int .i64 0, .int .i64 0, .int .i64 0, .int .i64 0, .int .i64 0, .int .i64 0, .int .i64 0, .int .i64 0, .int .i64 0, .int .i64 0, .bool false, .int .i64 0, .int .i64 0]⟩ := rfl
@[simp] theorem Tryd.τ48 : Tryd.τ 48 = some ⟨.func, 1, 8, [.nilFunc]⟩ := rfl
@[simp] theorem Tryd.τ49 : Tryd.τ 49 = some ⟨.int .i64, 1, 8, [.int .i64 0]⟩ := rfl
@[simp] theorem Tryd.τ50 : Tryd.τ 50 = some ⟨.func, 1, 8, [.nilFunc]⟩ := rfl
@[simp] theorem Tryd.τ51 : Tryd.τ 51 = some ⟨.func, 1, 8, [.nilFunc]⟩ := rfl
@[simp] theorem Tryd.τ52 : Tryd.τ 52 = some ⟨.func, 1, 8, [.nilFunc]⟩ := rfl
@[simp] theorem Tryd.τ53 : Tryd.τ 53 = some ⟨.slice 5, 1, 24, [.slice none 0 0]⟩ := rfl
@[simp] theorem Tryd.τ55 : Tryd.τ 55 = some ⟨.func, 1, 8, [.nilFunc]⟩ := rfl
@[simp] theorem Tryd.τ57 : Tryd.τ 57 = some ⟨.func, 1, 8, [.nilFunc]⟩ := rfl
@[simp] theorem Tryd.τ58 : Tryd.τ 58 = some ⟨.func, 1, 8, [.nilFunc]⟩ := rfl
@[simp] theorem Tryd.τ59 : Tryd.τ 59 = some ⟨.slice 61, 1, 24, [.slice none 0 0]⟩ := rfl
@[simp] theorem Tryd.τ60 : Tryd.τ 60 = some ⟨.struct [(0, 3), (1, 3), (2, 9), (3, 59)], 4, 56, [.int .i64 0, .int .i64 0, .string { data := #[] }, .slice none 0 0]⟩ := rfl
@[simp] theorem Tryd.τ61 : Tryd.τ 61 = some ⟨.struct [(0, 3), (1, 3), (2, 9), (3, 59)], 4, 56, [.int .i64 0, .int .i64 0, .string { data := #[] }, .slice none 0 0]⟩ := rfl
@[simp] theorem Tryd.τ63 : Tryd.τ 63 = some ⟨.func, 1, 8, [.nilFunc]⟩ := rfl
@[simp] theorem Tryd.τ64 : Tryd.τ 64 = some ⟨.slice 3, 1, 24, [.slice none 0 0]⟩ := rfl
@[simp] theorem Tryd.τ65 : Tryd.τ 65 = some ⟨.func, 1, 8, [.nilFunc]⟩ := rfl
@[simp] theorem Tryd.τ66 : Tryd.τ 66 = some ⟨.func, 1, 8, [.nilFunc]⟩ := rfl
@[simp] theorem Tryd.τ67 : Tryd.τ 67 = some ⟨.func, 1, 8, [.nilFunc]⟩ := rfl
@[simp] theorem Tryd.τ68 : Tryd.τ 68 = some ⟨.func, 1, 8, [.nilFunc]⟩ := rfl
@[simp] theorem Tryd.τ69 : Tryd.τ 69 = some ⟨.func, 1, 8, [.nilFunc]⟩ := rfl
@[simp] theorem Tryd.τ71 : Tryd.τ 71 = some ⟨.func, 1, 8, [.nilFunc]⟩ := rfl
@[simp] theorem Tryd.τ72 : Tryd.τ 72 = some ⟨.func, 1, 8, [.nilFunc]⟩ := rfl
@[simp] theorem Tryd.τ73 : Tryd.τ 73 = some ⟨.func, 1, 8, [.nilFunc]⟩ := rfl
@[simp] theorem Tryd.τ74 : Tryd.τ 74 = some ⟨.func, 1, 8, [.nilFunc]⟩ := rfl
@[simp] theorem Tryd.τ75 : Tryd.τ 75 = some ⟨.func, 1, 8, [.nilFunc]⟩ := rfl
@[simp] theorem Tryd.τ76 : Tryd.τ 76 = some ⟨.func, 1, 8, [.nilFunc]⟩ := rfl
@[simp] theorem Tryd.τ77 : Tryd.τ 77 = some ⟨.func, 1, 8, [.nilFunc]⟩ := rfl
@[simp] theorem Tryd.τ78 : Tryd.τ 78 = some ⟨.func, 1, 8, [.nilFunc]⟩ := rfl
@[simp] theorem Tryd.τ79 : Tryd.τ 79 = some ⟨.func, 1, 8, [.nilFunc]⟩ := rfl
@[simp] theorem Tryd.τ80 : Tryd.τ 80 = some ⟨.func, 1, 8, [.nilFunc]⟩ := rfl
@[simp] theorem Tryd.τ81 : Tryd.τ 81 = some ⟨.slice 88, 1, 24, [.slice none 0 0]⟩ := rfl
@[simp] theorem Tryd.τ82 : Tryd.τ 82 = some ⟨.func, 1, 8, [.nilFunc]⟩ := rfl
@[simp] theorem Tryd.τ83 : Tryd.τ 83 = some ⟨.ptr 47, 1, 8, [.pointer none]⟩ := rfl
@[simp] theorem Tryd.τ84 : Tryd.τ 84 = some ⟨.ptr 3, 1, 8, [.pointer none]⟩ := rfl
@[simp] theorem Tryd.τ85 : Tryd.τ 85 = some ⟨.struct [(0, 3), (1, 3)], 2, 16, [.int .i64 0, .int .i64 0]⟩ := rfl
@[simp] theorem Tryd.τ86 : Tryd.τ 86 = some ⟨.struct [(0, 3), (1, 3)], 2, 16, [.int .i64 0, .int .i64 0]⟩ := rfl
@[simp] theorem Tryd.τ87 : Tryd.τ 87 = some ⟨.struct [(0, 84), (1, 86)], 3, 24, [.pointer none, .int .i64 0, .int .i64 0]⟩ := rfl
@[simp] theorem Tryd.τ88 : Tryd.τ 88 = some ⟨.struct [(0, 84), (1, 86)], 3, 24, [.pointer none, .int .i64 0, .int .i64 0]⟩ := rfl
@[simp] theorem Tryd.τ89 : Tryd.τ 89 = some ⟨.struct [(0, 81), (1, 48)], 2, 32, [.slice none 0 0, .nilFunc]⟩ := rfl
@[simp] theorem Tryd.τ90 : Tryd.τ 90 = some ⟨.struct [(0, 81), (1, 48)], 2, 32, [.slice none 0 0, .nilFunc]⟩ := rfl
@[simp] theorem Tryd.τ92 : Tryd.τ 92 = some ⟨.func, 1, 8, [.nilFunc]⟩ := rfl
@[simp] theorem Tryd.τ93 : Tryd.τ 93 = some ⟨.func, 1, 8, [.nilFunc]⟩ := rfl
@[simp] theorem Tryd.τ94 : Tryd.τ 94 = some ⟨.func, 1, 8, [.nilFunc]⟩ := rfl
@[simp] theorem Tryd.τ95 : Tryd.τ 95 = some ⟨.ptr 97, 1, 8, [.pointer none]⟩ := rfl
@[simp] theorem Tryd.τ96 : Tryd.τ 96 = some ⟨.struct [(0, 53)], 1, 24, [.slice none 0 0]⟩ := rfl
@[simp] theorem Tryd.τ97 : Tryd.τ 97 = some ⟨.struct [(0, 53)], 1, 24, [.slice none 0 0]⟩ := rfl
@[simp] theorem Tryd.τ98 : Tryd.τ 98 = some ⟨.func, 1, 8, [.nilFunc]⟩ := rfl
@[simp] theorem Tryd.τ99 : Tryd.τ 99 = some ⟨.func, 1, 8, [.nilFunc]⟩ := rfl
@[simp] theorem Tryd.τ100 : Tryd.τ 100 = some ⟨.func, 1, 8, [.nilFunc]⟩ := rfl
@[simp] theorem Tryd.τ101 : Tryd.τ 101 = some ⟨.struct [(0, 100)], 1, 8, [.nilFunc]⟩ := rfl
@[simp] theorem Tryd.τ102 : Tryd.τ 102 = some ⟨.struct [(0, 100)], 1, 8, [.nilFunc]⟩ := rfl
@[simp] theorem Tryd.τ103 : Tryd.τ 103 = some ⟨.ptr 130, 1, 8, [.pointer none]⟩ := rfl
@[simp] theorem Tryd.τ104 : Tryd.τ 104 = some ⟨.func, 1, 8, [.nilFunc]⟩ := rfl
@[simp] theorem Tryd.τ105 : Tryd.τ 105 = some ⟨.func, 1, 8, [.nilFunc]⟩ := rfl
@[simp] theorem Tryd.τ106 : Tryd.τ 106 = some ⟨.func, 1, 8, [.nilFunc]⟩ := rfl
@[simp] theorem Tryd.τ107 : Tryd.τ 107 = some ⟨.func, 1, 8, [.nilFunc]⟩ := rfl
@[simp] theorem Tryd.τ108 : Tryd.τ 108 = some ⟨.func, 1, 8, [.nilFunc]⟩ := rfl
@[simp] theorem Tryd.τ109 : Tryd.τ 109 = some ⟨.func, 1, 8, [.nilFunc]⟩ := rfl
@[simp] theorem Tryd.τ110 : Tryd.τ 110 = some ⟨.ptr 23, 1, 8, [.pointer none]⟩ := rfl
@[simp] theorem Tryd.τ111 : Tryd.τ 111 = some ⟨.ptr 25, 1, 8, [.pointer none]⟩ := rfl
@[simp] theorem Tryd.τ112 : Tryd.τ 112 = some ⟨.ptr 27, 1, 8, [.pointer none]⟩ := rfl
@[simp] theorem Tryd.τ113 : Tryd.τ 113 = some ⟨.ptr 29, 1, 8, [.pointer none]⟩ := rfl
@[simp] theorem Tryd.τ114 : Tryd.τ 114 = some ⟨.ptr 31, 1, 8, [.pointer none]⟩ := rfl
@[simp] theorem Tryd.τ115 : Tryd.τ 115 = some ⟨.ptr 33, 1, 8, [.pointer none]⟩ := rfl
@[simp] theorem Tryd.τ116 : Tryd.τ 116 = some ⟨.ptr 35, 1, 8, [.pointer none]⟩ := rfl
@[simp] theorem Tryd.τ117 : Tryd.τ 117 = some ⟨.ptr 37, 1, 8, [.pointer none]⟩ := rfl
@[simp] theorem Tryd.τ118 : Tryd.τ 118 = some ⟨.ptr 39, 1, 8, [.pointer none]⟩ := rfl
@[simp] theorem Tryd.τ119 : Tryd.τ 119 = some ⟨.ptr 41, 1, 8, [.pointer none]⟩ := rfl
@[simp] theorem Tryd.τ120 : Tryd.τ 120 = some ⟨.ptr 122, 1, 8, [.pointer none]⟩ := rfl
@[simp] theorem Tryd.τ121 : Tryd.τ 121 = some ⟨.struct [(0, 53), (1, 3), (2, 4)], 3, 40, [.slice none 0 0, .int .i64 0, .bool false]⟩ := rfl
@[simp] theorem Tryd.τ122 : Tryd.τ 122 = some ⟨.struct [(0, 53), (1, 3), (2, 4)], 3, 40, [.slice none 0 0, .int .i64 0, .bool false]⟩ := rfl
@[simp] theorem Tryd.τ123 : Tryd.τ 123 = some ⟨.func, 1, 8, [.nilFunc]⟩ := rfl
@[simp] theorem Tryd.τ124 : Tryd.τ 124 = some ⟨.func, 1, 8, [.nilFunc]⟩ := rfl
@[simp] theorem Tryd.τ125 : Tryd.τ 125 = some ⟨.int .u64, 1, 8, [.int .u64 0]⟩ := rfl
@[simp] theorem Tryd.τ126 : Tryd.τ 126 = some ⟨.func, 1, 8, [.nilFunc]⟩ := rfl
@[simp] theorem Tryd.τ128 : Tryd.τ 128 = some ⟨.func, 1, 8, [.nilFunc]⟩ := rfl
@[simp] theorem Tryd.τ129 : Tryd.τ 129 = some ⟨.array 4 102, 4, 32, [.nilFunc, .nilFunc, .nilFunc, .nilFunc]⟩ := rfl
@[simp] theorem Tryd.τ130 : Tryd.τ 130 = some ⟨.array 4 102, 4, 32, [.nilFunc, .nilFunc, .nilFunc, .nilFunc]⟩ := rfl
@[simp] theorem Tryd.τ131 : Tryd.τ 131 = some ⟨.func, 1, 8, [.nilFunc]⟩ := rfl
@[simp] theorem Tryd.τ132 : Tryd.τ 132 = some ⟨.func, 1, 8, [.nilFunc]⟩ := rfl
@[simp] theorem Tryd.τ133 : Tryd.τ 133 = some ⟨.func, 1, 8, [.nilFunc]⟩ := rfl
@[simp] theorem Tryd.τ134 : Tryd.τ 134 = some ⟨.func, 1, 8, [.nilFunc]⟩ := rfl
@[simp] theorem Tryd.τ135 : Tryd.τ 135 = some ⟨.func, 1, 8, [.nilFunc]⟩ := rfl
@[simp] theorem Tryd.τ136 : Tryd.τ 136 = some ⟨.func, 1, 8, [.nilFunc]⟩ := rfl
@[simp] theorem Tryd.τ137 : Tryd.τ 137 = some ⟨.int .u64, 1, 8, [.int .u64 0]⟩ := rfl
@[simp] theorem Tryd.τ138 : Tryd.τ 138 = some ⟨.array 4 4, 4, 4, [.bool false, .bool false, .bool false, .bool false]⟩ := rfl
@[simp] theorem Tryd.τ139 : Tryd.τ 139 = some ⟨.func, 1, 8, [.nilFunc]⟩ := rfl
@[simp] theorem Tryd.τ140 : Tryd.τ 140 = some ⟨.struct [(0, 17), (1, 17), (2, 17), (3, 9)], 4, 40, [.pointer none, .pointer none, .pointer none, .string { data := #[] }]⟩ := rfl
@[simp] theorem Tryd.τ141 : Tryd.τ 141 = some ⟨.struct [(0, 17), (1, 17), (2, 17), (3, 9)], 4, 40, [.pointer none, .pointer none, .pointer none, .string { data := #[] }]⟩ := rfl
@[simp] theorem Tryd.τ142 : Tryd.τ 142 = some ⟨.array 0 16, 0, 0, []⟩ := rfl
@[simp] theorem Tryd.τ143 : Tryd.τ 143 = some ⟨.struct [(0, 142)], 0, 0, []⟩ := rfl
@[simp] theorem Tryd.τ144 : Tryd.τ 144 = some ⟨.struct [(0, 142)], 0, 0, []⟩ := rfl
@[simp] theorem Tryd.τ145 : Tryd.τ 145 = some ⟨.int .u32, 1, 4, [.int .u32 0]⟩ := rfl
@[simp] theorem Tryd.τ146 : Tryd.τ 146 = some ⟨.int .u8, 1, 1, [.int .u8 0]⟩ := rfl
@[simp] theorem Tryd.τ147 : Tryd.τ 147 = some ⟨.int .u8, 1, 1, [.int .u8 0]⟩ := rfl
@[simp] theorem Tryd.τ148 : Tryd.τ 148 = some ⟨.func, 1, 8, [.nilFunc]⟩ := rfl
@[simp] theorem Tryd.τ149 : Tryd.τ 149 = some ⟨.ptr 5, 1, 8, [.pointer none]⟩ := rfl
@[simp] theorem Tryd.τ150 : Tryd.τ 150 = some ⟨.int .i32, 1, 4, [.int .i32 0]⟩ := rfl
@[simp] theorem Tryd.τ151 : Tryd.τ 151 = some ⟨.int .i32, 1, 4, [.int .i32 0]⟩ := rfl
@[simp] theorem Tryd.τ152 : Tryd.τ 152 = some ⟨.struct [(0, 12), (1, 12), (2, 145), (3, 146), (4, 5), (5, 5), (6, 147), (7, 148), (8, 149), (9, 150), (10, 151)], 11, 48, [.int .u64 0, .int .u64 0, .int .u32 0, .int .u8 0, .int .u8 0, .int .u8 0, .int .u8 0, .nilFunc, .pointer none, .int .i32 0, .int .i32 0]⟩ := rfl
@[simp] theorem Tryd.τ153 : Tryd.τ 153 = some ⟨.struct [(0, 12), (1, 12), (2, 145), (3, 146), (4, 5), (5, 5), (6, 147), (7, 148), (8, 149), (9, 150), (10, 151)], 11, 48, [.int .u64 0, .int .u64 0, .int .u32 0, .int .u8 0, .int .u8 0, .int .u8 0, .int .u8 0, .nilFunc, .pointer none, .int .i32 0, .int .i32 0]⟩ := rfl
set_option maxRecDepth 100000 in
theorem Tryd.ty1 : TyOk Tryd.prog 1 ⟨.func, 1, 8, [.nilFunc]⟩ := ⟨⟨Tryd.t1, _, by kernel_rfl, rfl, rfl, rfl, rfl, rfl, rfl⟩, ⟨_, Tryd.underlying1, ⟨_, _, _, rfl⟩⟩⟩
theorem Tryd.ty2 : TyOk Tryd.prog 2 ⟨.int .i64, 1, 8, [.int .i64 0]⟩ := ⟨⟨Tryd.t2, _, by kernel_rfl, rfl, rfl, rfl, rfl, rfl, rfl⟩, ⟨_, Tryd.underlying2, rfl⟩⟩
theorem Tryd.ty3 : TyOk Tryd.prog 3 ⟨.int .i64, 1, 8, [.int .i64 0]⟩ := ⟨⟨Tryd.t3, _, by kernel_rfl, rfl, rfl, rfl, rfl, rfl, rfl⟩, ⟨_, Tryd.underlying3, rfl⟩⟩
theorem Tryd.ty4 : TyOk Tryd.prog 4 ⟨.bool, 1, 1, [.bool false]⟩ := ⟨⟨Tryd.t4, _, by kernel_rfl, rfl, rfl, rfl, rfl, rfl, rfl⟩, ⟨_, Tryd.underlying4, rfl⟩⟩
theorem Tryd.ty5 : TyOk Tryd.prog 5 ⟨.int .u8, 1, 1, [.int .u8 0]⟩ := ⟨⟨Tryd.t5, _, by kernel_rfl, rfl, rfl, rfl, rfl, rfl, rfl⟩, ⟨_, Tryd.underlying5, rfl⟩⟩
theorem Tryd.ty6 : TyOk Tryd.prog 6 ⟨.int .u8, 1, 1, [.int .u8 0]⟩ := ⟨⟨Tryd.t6, _, by kernel_rfl, rfl, rfl, rfl, rfl, rfl, rfl⟩, ⟨_, Tryd.underlying6, rfl⟩⟩
theorem Tryd.ty7 : TyOk Tryd.prog 7 ⟨.struct [(0, 2), (1, 3), (2, 4), (3, 6)], 4, 24, [.int .i64 0, .int .i64 0, .bool false, .int .u8 0]⟩ := ⟨⟨Tryd.t7, _, by kernel_rfl, rfl, rfl, rfl, rfl, rfl, rfl⟩, ⟨_, Tryd.underlying7, ⟨_, rfl, rfl⟩⟩⟩
theorem Tryd.ty8 : TyOk Tryd.prog 8 ⟨.struct [(0, 2), (1, 3), (2, 4), (3, 6)], 4, 24, [.int .i64 0, .int .i64 0, .bool false, .int .u8 0]⟩ := ⟨⟨Tryd.t8, _, by kernel_rfl, rfl, rfl, rfl, rfl, rfl, rfl⟩, ⟨_, Tryd.underlying8, ⟨_, rfl, rfl⟩⟩⟩
theorem Tryd.ty9 : TyOk Tryd.prog 9 ⟨.string, 1, 16, [.string { data := #[] }]⟩ := ⟨⟨Tryd.t9, _, by kernel_rfl, rfl, rfl, rfl, rfl, rfl, rfl⟩, ⟨_, Tryd.underlying9, rfl⟩⟩
theorem Tryd.ty10 : TyOk Tryd.prog 10 ⟨.string, 1, 16, [.string { data := #[] }]⟩ := ⟨⟨Tryd.t10, _, by kernel_rfl, rfl, rfl, rfl, rfl, rfl, rfl⟩, ⟨_, Tryd.underlying10, rfl⟩⟩
theorem Tryd.ty11 : TyOk Tryd.prog 11 ⟨.string, 1, 16, [.string { data := #[] }]⟩ := ⟨⟨Tryd.t11, _, by kernel_rfl, rfl, rfl, rfl, rfl, rfl, rfl⟩, ⟨_, Tryd.underlying11, rfl⟩⟩
theorem Tryd.ty12 : TyOk Tryd.prog 12 ⟨.int .u64, 1, 8, [.int .u64 0]⟩ := ⟨⟨Tryd.t12, _, by kernel_rfl, rfl, rfl, rfl, rfl, rfl, rfl⟩, ⟨_, Tryd.underlying12, rfl⟩⟩
theorem Tryd.ty13 : TyOk Tryd.prog 13 ⟨.struct [(0, 9), (1, 12)], 2, 24, [.string { data := #[] }, .int .u64 0]⟩ := ⟨⟨Tryd.t13, _, by kernel_rfl, rfl, rfl, rfl, rfl, rfl, rfl⟩, ⟨_, Tryd.underlying13, ⟨_, rfl, rfl⟩⟩⟩
theorem Tryd.ty14 : TyOk Tryd.prog 14 ⟨.struct [(0, 9), (1, 12)], 2, 24, [.string { data := #[] }, .int .u64 0]⟩ := ⟨⟨Tryd.t14, _, by kernel_rfl, rfl, rfl, rfl, rfl, rfl, rfl⟩, ⟨_, Tryd.underlying14, ⟨_, rfl, rfl⟩⟩⟩
theorem Tryd.ty15 : TyOk Tryd.prog 15 ⟨.ptr 141, 1, 8, [.pointer none]⟩ := ⟨⟨Tryd.t15, _, by kernel_rfl, rfl, rfl, rfl, rfl, rfl, rfl⟩, ⟨_, Tryd.underlying15, rfl⟩⟩
theorem Tryd.ty16 : TyOk Tryd.prog 16 ⟨.ptr 144, 1, 8, [.pointer none]⟩ := ⟨⟨Tryd.t16, _, by kernel_rfl, rfl, rfl, rfl, rfl, rfl, rfl⟩, ⟨_, Tryd.underlying16, rfl⟩⟩
theorem Tryd.ty17 : TyOk Tryd.prog 17 ⟨.ptr 153, 1, 8, [.pointer none]⟩ := ⟨⟨Tryd.t17, _, by kernel_rfl, rfl, rfl, rfl, rfl, rfl, rfl⟩, ⟨_, Tryd.underlying17, rfl⟩⟩
theorem Tryd.ty18 : TyOk Tryd.prog 18 ⟨.struct [(0, 17)], 1, 8, [.pointer none]⟩ := ⟨⟨Tryd.t18, _, by kernel_rfl, rfl, rfl, rfl, rfl, rfl, rfl⟩, ⟨_, Tryd.underlying18, ⟨_, rfl, rfl⟩⟩⟩
theorem Tryd.ty19 : TyOk Tryd.prog 19 ⟨.struct [(0, 17)], 1, 8, [.pointer none]⟩ := ⟨⟨Tryd.t19, _, by kernel_rfl, rfl, rfl, rfl, rfl, rfl, rfl⟩, ⟨_, Tryd.underlying19, ⟨_, rfl, rfl⟩⟩⟩
theorem Tryd.ty20 : TyOk Tryd.prog 20 ⟨.iface, 1, 16, [.nilIface]⟩ := ⟨⟨Tryd.t20, _, by kernel_rfl, rfl, rfl, rfl, rfl, rfl, rfl⟩, ⟨_, Tryd.underlying20, ⟨_, rfl⟩⟩⟩
theorem Tryd.ty21 : TyOk Tryd.prog 21 ⟨.int .i32, 1, 4, [.int .i32 0]⟩ := ⟨⟨Tryd.t21, _, by kernel_rfl, rfl, rfl, rfl, rfl, rfl, rfl⟩, ⟨_, Tryd.underlying21, rfl⟩⟩
theorem Tryd.ty22 : TyOk Tryd.prog 22 ⟨.struct [(0, 3), (1, 3), (2, 3), (3, 3), (4, 3), (5, 3), (6, 3), (7, 3)], 8, 64, [.int .i64 0, .int .i64 0, .int .i64 0, .int .i64 0, .int .i64 0, .int .i64 0, .int .i64 0, .int .i64 0]⟩ := ⟨⟨Tryd.t22, _, by kernel_rfl, rfl, rfl, rfl, rfl, rfl, rfl⟩, ⟨_, Tryd.underlying22, ⟨_, rfl, rfl⟩⟩⟩
theorem Tryd.ty23 : TyOk Tryd.prog 23 ⟨.struct [(0, 3), (1, 3), (2, 3), (3, 3), (4, 3), (5, 3), (6, 3), (7, 3)], 8, 64, [.int .i64 0, .int .i64 0, .int .i64 0, .int .i64 0, .int .i64 0, .int .i64 0, .int .i64 0, .int .i64 0]⟩ := ⟨⟨Tryd.t23, _, by kernel_rfl, rfl, rfl, rfl, rfl, rfl, rfl⟩, ⟨_, Tryd.underlying23, ⟨_, rfl, rfl⟩⟩⟩
theorem Tryd.ty24 : TyOk Tryd.prog 24 ⟨.struct [(0, 3), (1, 3), (2, 3), (3, 3)], 4, 32, [.int .i64 0, .int .i64 0, .int .i64 0, .int .i64 0]⟩ := ⟨⟨Tryd.t24, _, by kernel_rfl, rfl, rfl, rfl, rfl, rfl, rfl⟩, ⟨_, Tryd.underlying24, ⟨_, rfl, rfl⟩⟩⟩
theorem Tryd.ty25 : TyOk Tryd.prog 25 ⟨.struct [(0, 3), (1, 3), (2, 3), (3, 3)], 4, 32, [.int .i64 0, .int .i64 0, .int .i64 0, .int .i64 0]⟩ := ⟨⟨Tryd.t25, _, by kernel_rfl, rfl, rfl, rfl, rfl, rfl, rfl⟩, ⟨_, Tryd.underlying25, ⟨_, rfl, rfl⟩⟩⟩
theorem Tryd.ty26 : TyOk Tryd.prog 26 ⟨.struct [(0, 3), (1, 3), (2, 3), (3, 3), (4, 3)], 5, 40, [.int .i64 0, .int .i64 0, .int .i64 0, .int .i64 0, .int .i64 0]⟩ := ⟨⟨Tryd.t26, _, by kernel_rfl, rfl, rfl, rfl, rfl, rfl, rfl⟩, ⟨_, Tryd.underlying26, ⟨_, rfl, rfl⟩⟩⟩
theorem Tryd.ty27 : TyOk Tryd.prog 27 ⟨.struct [(0, 3), (1, 3), (2, 3), (3, 3), (4, 3)], 5, 40, [.int .i64 0, .int .i64 0, .int .i64 0, .int .i64 0, .int .i64 0]⟩ := ⟨⟨Tryd.t27, _, by kernel_rfl, rfl, rfl, rfl, rfl, rfl, rfl⟩, ⟨_, Tryd.underlying27, ⟨_, rfl, rfl⟩⟩⟩
theorem Tryd.ty28 : TyOk Tryd.prog 28 ⟨.struct [(0, 3), (1, 3), (2, 3), (3, 3), (4, 3), (5, 3), (6, 3), (7, 3)], 8, 64, [.int .i64 0, .int .i64 0, .int .i64 0, .int .i64 0, .int .i64 0, .int .i64 0, .int .i64 0, .int .i64 0]⟩ := ⟨⟨Tryd.t28, _, by kernel_rfl, rfl, rfl, rfl, rfl, rfl, rfl⟩, ⟨_, Tryd.underlying28, ⟨_, rfl, rfl⟩⟩⟩
theorem Tryd.ty29 : TyOk Tryd.prog 29 ⟨.struct [(0, 3), (1, 3), (2, 3), (3, 3), (4, 3), (5, 3), (6, 3), (7, 3)], 8, 64, [.int .i64 0, .int .i64 0, .int .i64 0, .int .i64 0, .int .i64 0, .int .i64 0, .int .i64 0, .int .i64 0]⟩ := ⟨⟨Tryd.t29, _, by kernel_rfl, rfl, rfl, rfl, rfl, rfl, rfl⟩, ⟨_, Tryd.underlying29, ⟨_, rfl, rfl⟩⟩⟩
theorem Tryd.ty30 : TyOk Tryd.prog 30 ⟨.struct [(0, 3), (1, 3), (2, 3), (3, 3)], 4, 32, [.int .i64 0, .int .i64 0, .int .i64 0, .int .i64 0]⟩ := ⟨⟨Tryd.t30, _, by kernel_rfl, rfl, rfl, rfl, rfl, rfl, rfl⟩, ⟨_, Tryd.underlying30, ⟨_, rfl, rfl⟩⟩⟩
theorem Tryd.ty31 : TyOk Tryd.prog 31 ⟨.struct [(0, 3), (1, 3), (2, 3), (3, 3)], 4, 32, [.int .i64 0, .int .i64 0, .int .i64 0, .int .i64 0]⟩ := ⟨⟨Tryd.t31, _, by kernel_rfl, rfl, rfl, rfl, rfl, rfl, rfl⟩, ⟨_, Tryd.underlying31, ⟨_, rfl, rfl⟩⟩⟩
theorem Tryd.ty32 : TyOk Tryd.prog 32 ⟨.struct [(0, 3), (1, 3), (2, 3), (3, 3)], 4, 32, [.int .i64 0, .int .i64 0, .int .i64 0, .int .i64 0]⟩ := ⟨⟨Tryd.t32, _, by kernel_rfl, rfl, rfl, rfl, rfl, rfl, rfl⟩, ⟨_, Tryd.underlying32, ⟨_, rfl, rfl⟩⟩⟩
theorem Tryd.ty33 : TyOk Tryd.prog 33 ⟨.struct [(0, 3), (1, 3), (2, 3), (3, 3)], 4, 32, [.int .i64 0, .int .i64 0, .int .i64 0, .int .i64 0]⟩ := ⟨⟨Tryd.t33, _, by kernel_rfl, rfl, rfl, rfl, rfl, rfl, rfl⟩, ⟨_, Tryd.underlying33, ⟨_, rfl, rfl⟩⟩⟩
theorem Tryd.ty34 : TyOk Tryd.prog 34 ⟨.struct [(0, 3), (1, 3)], 2, 16, [.int .i64 0, .int .i64 0]⟩ := ⟨⟨Tryd.t34, _, by kernel_rfl, rfl, rfl, rfl, rfl, rfl, rfl⟩, ⟨_, Tryd.underlying34, ⟨_, rfl, rfl⟩⟩⟩
theorem Tryd.ty35 : TyOk Tryd.prog 35 ⟨.struct [(0, 3), (1, 3)], 2, 16, [.int .i64 0, .int .i64 0]⟩ := ⟨⟨Tryd.t35, _, by kernel_rfl, rfl, rfl, rfl, rfl, rfl, rfl⟩, ⟨_, Tryd.underlying35, ⟨_, rfl, rfl⟩⟩⟩
theorem Tryd.ty36 : TyOk Tryd.prog 36 ⟨.struct [(0, 3), (1, 3), (2, 3), (3, 3)], 4, 32, [.int .i64 0, .int .i64 0, .int .i64 0, .int .i64 0]⟩ := ⟨⟨Tryd.t36, _, by kernel_rfl, rfl, rfl, rfl, rfl, rfl, rfl⟩, ⟨_, Tryd.underlying36, ⟨_, rfl, rfl⟩⟩⟩
theorem Tryd.ty37 : TyOk Tryd.prog 37 ⟨.struct [(0, 3), (1, 3), (2, 3), (3, 3)], 4, 32, [.int .i64 0, .int .i64 0, .int .i64 0, .int .i64 0]⟩ := ⟨⟨Tryd.t37, _, by kernel_rfl, rfl, rfl, rfl, rfl, rfl, rfl⟩, ⟨_, Tryd.underlying37, ⟨_, rfl, rfl⟩⟩⟩
theorem Tryd.ty38 : TyOk Tryd.prog 38 ⟨.struct [(0, 3), (1, 3), (2, 3), (3, 3)], 4, 32, [.int .i64 0, .int .i64 0, .int .i64 0, .int .i64 0]⟩ := ⟨⟨Tryd.t38, _, by kernel_rfl, rfl, rfl, rfl, rfl, rfl, rfl⟩, ⟨_, Tryd.underlying38, ⟨_, rfl, rfl⟩⟩⟩
theorem Tryd.ty39 : TyOk Tryd.prog 39 ⟨.struct [(0, 3), (1, 3), (2, 3), (3, 3)], 4, 32, [.int .i64 0, .int .i64 0, .int .i64 0, .int .i64 0]⟩ := ⟨⟨Tryd.t39, _, by kernel_rfl, rfl, rfl, rfl, rfl, rfl, rfl⟩, ⟨_, Tryd.underlying39, ⟨_, rfl, rfl⟩⟩⟩
theorem Tryd.ty40 : TyOk Tryd.prog 40 ⟨.struct [(0, 3), (1, 3), (2, 3), (3, 3), (4, 3), (5, 3)], 6, 48, [.int .i64 0, .int .i64 0, .int .i64 0, .int .i64 0, .int .i64 0, .int .i64 0]⟩ := ⟨⟨Tryd.t40, _, by kernel_rfl, rfl, rfl, rfl, rfl, rfl, rfl⟩, ⟨_, Tryd.underlying40, ⟨_, rfl, rfl⟩⟩⟩
theorem Tryd.ty41 : TyOk Tryd.prog 41 ⟨.struct [(0, 3), (1, 3), (2, 3), (3, 3), (4, 3), (5, 3)], 6, 48, [.int .i64 0, .int .i64 0, .int .i64 0, .int .i64 0, .int .i64 0, .int .i64 0]⟩ := ⟨⟨Tryd.t41, _, by kernel_rfl, rfl, rfl, rfl, rfl, rfl, rfl⟩, ⟨_, Tryd.underlying41, ⟨_, rfl, rfl⟩⟩⟩
theorem Tryd.ty42 : TyOk Tryd.prog 42 ⟨.struct [(0, 3), (1, 4)], 2, 16, [.int .i64 0, .bool false]⟩ := ⟨⟨Tryd.t42, _, by kernel_rfl, rfl, rfl, rfl, rfl, rfl, rfl⟩, ⟨_, Tryd.underlying42, ⟨_, rfl, rfl⟩⟩⟩
theorem Tryd.ty43 : TyOk Tryd.prog 43 ⟨.struct [(0, 3), (1, 4)], 2, 16, [.int .i64 0, .bool false]⟩ := ⟨⟨Tryd.t43, _, by kernel_rfl, rfl, rfl, rfl, rfl, rfl, rfl⟩, ⟨_, Tryd.underlying43, ⟨_, rfl, rfl⟩⟩⟩
theorem Tryd.ty44 : TyOk Tryd.prog 44 ⟨.struct [(0, 3), (1, 3)], 2, 16, [.int .i64 0, .int .i64 0]⟩ := ⟨⟨Tryd.t44, _, by kernel_rfl, rfl, rfl, rfl, rfl, rfl, rfl⟩, ⟨_, Tryd.underlying44, ⟨_, rfl, rfl⟩⟩⟩
theorem Tryd.ty45 : TyOk Tryd.prog 45 ⟨.struct [(0, 3), (1, 3)], 2, 16, [.int .i64 0, .int .i64 0]⟩ := ⟨⟨Tryd.t45, _, by kernel_rfl, rfl, rfl, rfl, rfl, rfl, rfl⟩, ⟨_, Tryd.underlying45, ⟨_, rfl, rfl⟩⟩⟩
theorem Tryd.ty46 : TyOk Tryd.prog 46 ⟨.struct [(0, 3), (1, 3), (2, 3), (3, 3), (4, 23), (12, 25), (16, 27), (21, 29), (29, 31), (33, 33), (37, 35), (39, 37), (43, 39), (47, 41), (53, 43), (55, 45)], 57, 456, [.int .i64 0, .int .i64 0, .int .i64 0, .int .i64 0, .int .i64 0, .int .i64 0, .int .i64 0, .int .i64 0, .int .i64 0, .int .i64 0, .int .i64 0, .int .i64 0, .int .i64 0, .int .i64 0, .int .i64 0, .int .i64 0, .int .i64 0, .int .i64 0, .int .i64 0, .int .i64 0, .int .i64 0, .int .i64 0, .int .i64 0, .int .i64 0, .int .i64 0, .int .i64 0, .int .i64 0, .int .i64 0, .int .i64 0, .int .i64 0, .int .i64 0, .int .i64 0, .int .i64 0, .int .i64 0, .int .i64 0, .int .i64 0, .int .i64 0, .int .i64 0, .int .i64 0, .int .i64 0, .int .i64 0, .int .i64 0, .int .i64 0, .int .i64 0, .int .i64 0, .int .i64 0, .int .i64 0, .int .i64 0, .int .i64 0, .int .i64 0, .int .i64 0, .int .i64 0, .int .i64 0, .int .i64 0, .bool false, .int .i64 0, .int .i64 0]⟩ := ⟨⟨Tryd.t46, _, by kernel_rfl, rfl, rfl, rfl, rfl, rfl, rfl⟩, ⟨_, Tryd.underlying46, ⟨_, rfl, rfl⟩⟩⟩
theorem Tryd.ty47 : TyOk Tryd.prog 47 ⟨.struct [(0, 3), (1, 3), (2, 3), (3, 3), (4, 23), (12, 25), (16, 27), (21, 29), (29, 31), (33, 33), (37, 35), (39, 37), (43, 39), (47, 41), (53, 43), (55, 45)], 57, 456, [.int .i64 0, .int .i64 0, .int .i64 0, .int .i64 0, .int .i64 0, .int .i64 0, .int .i64 0, .int .i64 0, .int .i64 0, .int .i64 0, .int .i64 0, .int .i64 0, .int .i64 0, .int .i64 0, .int .i64 0, .int .i64 0, .int .i64 0, .int .i64 0, .int .i64 0, .int .i64 0, .int .i64 0, .int .i64 0, .int .i64 0, .int .i64 0, .int .i64 0, .int .i64 0, .int .i64 0, .int .i64 0, .int .i64 0, .int .i64 0, .int .i64 0, .int .i64 0, .int .i64 0, .int .i64 0, .int .i64 0, .int .i64 0, .int .i64 0, .int .i64 0, .int .i64 0, .int .i64 0, .int .i64 0, .int .i64 0, .int .i64 0, .int .i64 0, .int .i64 0, .int .i64 0, .int .i64 0, .int .i64 0, .int .i64 0, .int .i64 0, .int .i64 0, .int .i64 0, .int .i64 0, .int .i64 0, .bool false, .int .i64 0, .int .i64 0]⟩ := ⟨⟨Tryd.t47, _, by kernel_rfl, rfl, rfl, rfl, rfl, rfl, rfl⟩, ⟨_, Tryd.underlying47, ⟨_, rfl, rfl⟩⟩⟩
theorem Tryd.ty48 : TyOk Tryd.prog 48 ⟨.func, 1, 8, [.nilFunc]⟩ := ⟨⟨Tryd.t48, _, by kernel_rfl, rfl, rfl, rfl, rfl, rfl, rfl⟩, ⟨_, Tryd.underlying48, ⟨_, _, _, rfl⟩⟩⟩
theorem Tryd.ty49 : TyOk Tryd.prog 49 ⟨.int .i64, 1, 8, [.int .i64 0]⟩ := ⟨⟨Tryd.t49, _, by kernel_rfl, rfl, rfl, rfl, rfl, rfl, rfl⟩, ⟨_, Tryd.underlying49, rfl⟩⟩
theorem Tryd.ty50 : TyOk Tryd.prog 50 ⟨.func, 1, 8, [.nilFunc]⟩ := ⟨⟨Tryd.t50, _, by kernel_rfl, rfl, rfl, rfl, rfl, rfl, rfl⟩, ⟨_, Tryd.underlying50, ⟨_, _, _, rfl⟩⟩⟩
theorem Tryd.ty51 : TyOk Tryd.prog 51 ⟨.func, 1, 8, [.nilFunc]⟩ := ⟨⟨Tryd.t51, _, by kernel_rfl, rfl, rfl, rfl, rfl, rfl, rfl⟩, ⟨_, Tryd.underlying51, ⟨_, _, _, rfl⟩⟩⟩
theorem Tryd.ty52 : TyOk Tryd.prog 52 ⟨.func, 1, 8, [.nilFunc]⟩ := ⟨⟨Tryd.t52, _, by kernel_rfl, rfl, rfl, rfl, rfl, rfl, rfl⟩, ⟨_, Tryd.underlying52, ⟨_, _, _, rfl⟩⟩⟩
theorem Tryd.ty53 : TyOk Tryd.prog 53 ⟨.slice 5, 1, 24, [.slice none 0 0]⟩ := ⟨⟨Tryd.t53, _, by kernel_rfl, rfl, rfl, rfl, rfl, rfl, rfl⟩, ⟨_, Tryd.underlying53, rfl⟩⟩
theorem Tryd.ty55 : TyOk Tryd.prog 55 ⟨.func, 1, 8, [.nilFunc]⟩ := ⟨⟨Tryd.t55, _, by kernel_rfl, rfl, rfl, rfl, rfl, rfl, rfl⟩, ⟨_, Tryd.underlying55, ⟨_, _, _, rfl⟩⟩⟩
theorem Tryd.ty57 : TyOk Tryd.prog 57 ⟨.func, 1, 8, [.nilFunc]⟩ := ⟨⟨Tryd.t57, _, by kernel_rfl, rfl, rfl, rfl, rfl, rfl, rfl⟩, ⟨_, Tryd.underlying57, ⟨_, _, _, rfl⟩⟩⟩
theorem Tryd.ty58 : TyOk Tryd.prog 58 ⟨.func, 1, 8, [.nilFunc]⟩ := ⟨⟨Tryd.t58, _, by kernel_rfl, rfl, rfl, rfl, rfl, rfl, rfl⟩, ⟨_, Tryd.underlying58, ⟨_, _, _, rfl⟩⟩⟩
theorem Tryd.ty59 : TyOk Tryd.prog 59 ⟨.slice 61, 1, 24, [.slice none 0 0]⟩ := ⟨⟨Tryd.t59, _, by kernel_rfl, rfl, rfl, rfl, rfl, rfl, rfl⟩, ⟨_, Tryd.underlying59, rfl⟩⟩
theorem Tryd.ty60 : TyOk Tryd.prog 60 ⟨.struct [(0, 3), (1, 3), (2, 9), (3, 59)], 4, 56, [.int .i64 0, .int .i64 0, .string { data := #[] }, .slice none 0 0]⟩ := ⟨⟨Tryd.t60, _, by kernel_rfl, rfl, rfl, rfl, rfl, rfl, rfl⟩, ⟨_, Tryd.underlying60, ⟨_, rfl, rfl⟩⟩⟩
theorem Tryd.ty61 : TyOk Tryd.prog 61 ⟨.struct [(0, 3), (1, 3), (2, 9), (3, 59)], 4, 56, [.int .i64 0, .int .i64 0, .string { data := #[] }, .slice none 0 0]⟩ := ⟨⟨Tryd.t61, _, by kernel_rfl, rfl, rfl, rfl, rfl, rfl, rfl⟩, ⟨_, Tryd.underlying61, ⟨_, rfl, rfl⟩⟩⟩
theorem Tryd.ty63 : TyOk Tryd.prog 63 ⟨.func, 1, 8, [.nilFunc]⟩ := ⟨⟨Tryd.t63, _, by kernel_rfl, rfl, rfl, rfl, rfl, rfl, rfl⟩, ⟨_, Tryd.underlying63, ⟨_, _, _, rfl⟩⟩⟩
theorem Tryd.ty64 : TyOk Tryd.prog 64 ⟨.slice 3, 1, 24, [.slice none 0 0]⟩ := ⟨⟨Tryd.t64, _, by kernel_rfl, rfl, rfl, rfl, rfl, rfl, rfl⟩, ⟨_, Tryd.underlying64, rfl⟩⟩
theorem Tryd.ty65 : TyOk Tryd.prog 65 ⟨.func, 1, 8, [.nilFunc]⟩ := ⟨⟨Tryd.t65, _, by kernel_rfl, rfl, rfl, rfl, rfl, rfl, rfl⟩, ⟨_, Tryd.underlying65, ⟨_, _, _, rfl⟩⟩⟩
theorem Tryd.ty66 : TyOk Tryd.prog 66 ⟨.func, 1, 8, [.nilFunc]⟩ := ⟨⟨Tryd.t66, _, by kernel_rfl, rfl, rfl, rfl, rfl, rfl, rfl⟩, ⟨_, Tryd.underlying66, ⟨_, _, _, rfl⟩⟩⟩
theorem Tryd.ty67 : TyOk Tryd.prog 67 ⟨.func, 1, 8, [.nilFunc]⟩ := ⟨⟨Tryd.t67, _, by kernel_rfl, rfl, rfl, rfl, rfl, rfl, rfl⟩, ⟨_, Tryd.underlying67, ⟨_, _, _, rfl⟩⟩⟩
theorem Tryd.ty68 : TyOk Tryd.prog 68 ⟨.func, 1, 8, [.nilFunc]⟩ := ⟨⟨Tryd.t68, _, by kernel_rfl, rfl, rfl, rfl, rfl, rfl, rfl⟩, ⟨_, Tryd.underlying68, ⟨_, _, _, rfl⟩⟩⟩
theorem Tryd.ty69 : TyOk Tryd.prog 69 ⟨.func, 1, 8, [.nilFunc]⟩ := ⟨⟨Tryd.t69, _, by kernel_rfl, rfl, rfl, rfl, rfl, rfl, rfl⟩, ⟨_, Tryd.underlying69, ⟨_, _, _, rfl⟩⟩⟩
theorem Tryd.ty71 : TyOk Tryd.prog 71 ⟨.func, 1, 8, [.nilFunc]⟩ := ⟨⟨Tryd.t71, _, by kernel_rfl, rfl, rfl, rfl, rfl, rfl, rfl⟩, ⟨_, Tryd.underlying71, ⟨_, _, _, rfl⟩⟩⟩
theorem Tryd.ty72 : TyOk Tryd.prog 72 ⟨.func, 1, 8, [.nilFunc]⟩ := ⟨⟨Tryd.t72, _, by kernel_rfl, rfl, rfl, rfl, rfl, rfl, rfl⟩, ⟨_, Tryd.underlying72, ⟨_, _, _, rfl⟩⟩⟩
theorem Tryd.ty73 : TyOk Tryd.prog 73 ⟨.func, 1, 8, [.nilFunc]⟩ := ⟨⟨Tryd.t73, _, by kernel_rfl, rfl, rfl, rfl, rfl, rfl, rfl⟩, ⟨_, Tryd.underlying73, ⟨_, _, _, rfl⟩⟩⟩
theorem Tryd.ty74 : TyOk Tryd.prog 74 ⟨.func, 1, 8, [.nilFunc]⟩ := ⟨⟨Tryd.t74, _, by kernel_rfl, rfl, rfl, rfl, rfl, rfl, rfl⟩, ⟨_, Tryd.underlying74, ⟨_, _, _, rfl⟩⟩⟩
theorem Tryd.ty75 : TyOk Tryd.prog 75 ⟨.func, 1, 8, [.nilFunc]⟩ := ⟨⟨Tryd.t75, _, by kernel_rfl, rfl, rfl, rfl, rfl, rfl, rfl⟩, ⟨_, Tryd.underlying75, ⟨_, _, _, rfl⟩⟩⟩
theorem Tryd.ty76 : TyOk Tryd.prog 76 ⟨.func, 1, 8, [.nilFunc]⟩ := ⟨⟨Tryd.t76, _, by kernel_rfl, rfl, rfl, rfl, rfl, rfl, rfl⟩, ⟨_, Tryd.underlying76, ⟨_, _, _, rfl⟩⟩⟩
theorem Tryd.ty77 : TyOk Tryd.prog 77 ⟨.func, 1, 8, [.nilFunc]⟩ := ⟨⟨Tryd.t77, _, by kernel_rfl, rfl, rfl, rfl, rfl, rfl, rfl⟩, ⟨_, Tryd.underlying77, ⟨_, _, _, rfl⟩⟩⟩
theorem Tryd.ty78 : TyOk Tryd.prog 78 ⟨.func, 1, 8, [.nilFunc]⟩ := ⟨⟨Tryd.t78, _, by kernel_rfl, rfl, rfl, rfl, rfl, rfl, rfl⟩, ⟨_, Tryd.underlying78, ⟨_, _, _, rfl⟩⟩⟩
theorem Tryd.ty79 : TyOk Tryd.prog 79 ⟨.func, 1, 8, [.nilFunc]⟩ := ⟨⟨Tryd.t79, _, by kernel_rfl, rfl, rfl, rfl, rfl, rfl, rfl⟩, ⟨_, Tryd.underlying79, ⟨_, _, _, rfl⟩⟩⟩
theorem Tryd.ty80 : TyOk Tryd.prog 80 ⟨.func, 1, 8, [.nilFunc]⟩ := ⟨⟨Tryd.t80, _, by kernel_rfl, rfl, rfl, rfl, rfl, rfl, rfl⟩, ⟨_, Tryd.underlying80, ⟨_, _, _, rfl⟩⟩⟩
theorem Tryd.ty81 : TyOk Tryd.prog 81 ⟨.slice 88, 1, 24, [.slice none 0 0]⟩ := ⟨⟨Tryd.t81, _, by kernel_rfl, rfl, rfl, rfl, rfl, rfl, rfl⟩, ⟨_, Tryd.underlying81, rfl⟩⟩
theorem Tryd.ty82 : TyOk Tryd.prog 82 ⟨.func, 1, 8, [.nilFunc]⟩ := ⟨⟨Tryd.t82, _, by kernel_rfl, rfl, rfl, rfl, rfl, rfl, rfl⟩, ⟨_, Tryd.underlying82, ⟨_, _, _, rfl⟩⟩⟩
theorem Tryd.ty83 : TyOk Tryd.prog 83 ⟨.ptr 47, 1, 8, [.pointer none]⟩ := ⟨⟨Tryd.t83, _, by kernel_rfl, rfl, rfl, rfl, rfl, rfl, rfl⟩, ⟨_, Tryd.underlying83, rfl⟩⟩
theorem Tryd.ty84 : TyOk Tryd.prog 84 ⟨.ptr 3, 1, 8, [.pointer none]⟩ := ⟨⟨Tryd.t84, _, by kernel_rfl, rfl, rfl, rfl, rfl, rfl, rfl⟩, ⟨_, Tryd.underlying84, rfl⟩⟩
theorem Tryd.ty85 : TyOk Tryd.prog 85 ⟨.struct [(0, 3), (1, 3)], 2, 16, [.int .i64 0, .int .i64 0]⟩ := ⟨⟨Tryd.t85, _, by kernel_rfl, rfl, rfl, rfl, rfl, rfl, rfl⟩, ⟨_, Tryd.underlying85, ⟨_, rfl, rfl⟩⟩⟩
theorem Tryd.ty86 : TyOk Tryd.prog 86 ⟨.struct [(0, 3), (1, 3)], 2, 16, [.int .i64 0, .int .i64 0]⟩ := ⟨⟨Tryd.t86, _, by kernel_rfl, rfl, rfl, rfl, rfl, rfl, rfl⟩, ⟨_, Tryd.underlying86, ⟨_, rfl, rfl⟩⟩⟩
theorem Tryd.ty87 : TyOk Tryd.prog 87 ⟨.struct [(0, 84), (1, 86)], 3, 24, [.pointer none, .int .i64 0, .int .i64 0]⟩ := ⟨⟨Tryd.t87, _, by kernel_rfl, rfl, rfl, rfl, rfl, rfl, rfl⟩, ⟨_, Tryd.underlying87, ⟨_, rfl, rfl⟩⟩⟩
theorem Tryd.ty88 : TyOk Tryd.prog 88 ⟨.struct [(0, 84), (1, 86)], 3, 24, [.pointer none, .int .i64 0, .int .i64 0]⟩ := ⟨⟨Tryd.t88, _, by kernel_rfl, rfl, rfl, rfl, rfl, rfl, rfl⟩, ⟨_, Tryd.underlying88, ⟨_, rfl, rfl⟩⟩⟩
theorem Tryd.ty89 : TyOk Tryd.prog 89 ⟨.struct [(0, 81), (1, 48)], 2, 32, [.slice none 0 0, .nilFunc]⟩ := ⟨⟨Tryd.t89, _, by kernel_rfl, rfl, rfl, rfl, rfl, rfl, rfl⟩, ⟨_, Tryd.underlying89, ⟨_, rfl, rfl⟩⟩⟩
theorem Tryd.ty90 : TyOk Tryd.prog 90 ⟨.struct [(0, 81), (1, 48)], 2, 32, [.slice none 0 0, .nilFunc]⟩ := ⟨⟨Tryd.t90, _, by kernel_rfl, rfl, rfl, rfl, rfl, rfl, rfl⟩, ⟨_, Tryd.underlying90, ⟨_, rfl, rfl⟩⟩⟩
theorem Tryd.ty92 : TyOk Tryd.prog 92 ⟨.func, 1, 8, [.nilFunc]⟩ := ⟨⟨Tryd.t92, _, by kernel_rfl, rfl, rfl, rfl, rfl, rfl, rfl⟩, ⟨_, Tryd.underlying92, ⟨_, _, _, rfl⟩⟩⟩
theorem Tryd.ty93 : TyOk Tryd.prog 93 ⟨.func, 1, 8, [.nilFunc]⟩ := ⟨⟨Tryd.t93, _, by kernel_rfl, rfl, rfl, rfl, rfl, rfl, rfl⟩, ⟨_, Tryd.underlying93, ⟨_, _, _, rfl⟩⟩⟩
theorem Tryd.ty94 : TyOk Tryd.prog 94 ⟨.func, 1, 8, [.nilFunc]⟩ := ⟨⟨Tryd.t94, _, by kernel_rfl, rfl, rfl, rfl, rfl, rfl, rfl⟩, ⟨_, Tryd.underlying94, ⟨_, _, _, rfl⟩⟩⟩
theorem Tryd.ty95 : TyOk Tryd.prog 95 ⟨.ptr 97, 1, 8, [.pointer none]⟩ := ⟨⟨Tryd.t95, _, by kernel_rfl, rfl, rfl, rfl, rfl, rfl, rfl⟩, ⟨_, Tryd.underlying95, rfl⟩⟩
theorem Tryd.ty96 : TyOk Tryd.prog 96 ⟨.struct [(0, 53)], 1, 24, [.slice none 0 0]⟩ := ⟨⟨Tryd.t96, _, by kernel_rfl, rfl, rfl, rfl, rfl, rfl, rfl⟩, ⟨_, Tryd.underlying96, ⟨_, rfl, rfl⟩⟩⟩
theorem Tryd.ty97 : TyOk Tryd.prog 97 ⟨.struct [(0, 53)], 1, 24, [.slice none 0 0]⟩ := ⟨⟨Tryd.t97, _, by kernel_rfl, rfl, rfl, rfl, rfl, rfl, rfl⟩, ⟨_, Tryd.underlying97, ⟨_, rfl, rfl⟩⟩⟩
theorem Tryd.ty98 : TyOk Tryd.prog 98 ⟨.func, 1, 8, [.nilFunc]⟩ := ⟨⟨Tryd.t98, _, by kernel_rfl, rfl, rfl, rfl, rfl, rfl, rfl⟩, ⟨_, Tryd.underlying98, ⟨_, _, _, rfl⟩⟩⟩
theorem Tryd.ty99 : TyOk Tryd.prog 99 ⟨.func, 1, 8, [.nilFunc]⟩ := ⟨⟨Tryd.t99, _, by kernel_rfl, rfl, rfl, rfl, rfl, rfl, rfl⟩, ⟨_, Tryd.underlying99, ⟨_, _, _, rfl⟩⟩⟩
theorem Tryd.ty100 : TyOk Tryd.prog 100 ⟨.func, 1, 8, [.nilFunc]⟩ := ⟨⟨Tryd.t100, _, by kernel_rfl, rfl, rfl, rfl, rfl, rfl, rfl⟩, ⟨_, Tryd.underlying100, ⟨_, _, _, rfl⟩⟩⟩
theorem Tryd.ty101 : TyOk Tryd.prog 101 ⟨.struct [(0, 100)], 1, 8, [.nilFunc]⟩ := ⟨⟨Tryd.t101, _, by kernel_rfl, rfl, rfl, rfl, rfl, rfl, rfl⟩, ⟨_, Tryd.underlying101, ⟨_, rfl, rfl⟩⟩⟩
theorem Tryd.ty102 : TyOk Tryd.prog 102 ⟨.struct [(0, 100)], 1, 8, [.nilFunc]⟩ := ⟨⟨Tryd.t102, _, by kernel_rfl, rfl, rfl, rfl, rfl, rfl, rfl⟩, ⟨_, Tryd.underlying102, ⟨_, rfl, rfl⟩⟩⟩
theorem Tryd.ty103 : TyOk Tryd.prog 103 ⟨.ptr 130, 1, 8, [.pointer none]⟩ := ⟨⟨Tryd.t103, _, by kernel_rfl, rfl, rfl, rfl, rfl, rfl, rfl⟩, ⟨_, Tryd.underlying103, rfl⟩⟩
theorem Tryd.ty104 : TyOk Tryd.prog 104 ⟨.func, 1, 8, [.nilFunc]⟩ := ⟨⟨Tryd.t104, _, by kernel_rfl, rfl, rfl, rfl, rfl, rfl, rfl⟩, ⟨_, Tryd.underlying104, ⟨_, _, _, rfl⟩⟩⟩
theorem Tryd.ty105 : TyOk Tryd.prog 105 ⟨.func, 1, 8, [.nilFunc]⟩ := ⟨⟨Tryd.t105, _, by kernel_rfl, rfl, rfl, rfl, rfl, rfl, rfl⟩, ⟨_, Tryd.underlying105, ⟨_, _, _, rfl⟩⟩⟩
theorem Tryd.ty106 : TyOk Tryd.prog 106 ⟨.func, 1, 8, [.nilFunc]⟩ := ⟨⟨Tryd.t106, _, by kernel_rfl, rfl, rfl, rfl, rfl, rfl, rfl⟩, ⟨_, Tryd.underlying106, ⟨_, _, _, rfl⟩⟩⟩
theorem Tryd.ty107 : TyOk Tryd.prog 107 ⟨.func, 1, 8, [.nilFunc]⟩ := ⟨⟨Tryd.t107, _, by kernel_rfl, rfl, rfl, rfl, rfl, rfl, rfl⟩, ⟨_, Tryd.underlying107, ⟨_, _, _, rfl⟩⟩⟩
theorem Tryd.ty108 : TyOk Tryd.prog 108 ⟨.func, 1, 8, [.nilFunc]⟩ := ⟨⟨Tryd.t108, _, by kernel_rfl, rfl, rfl, rfl, rfl, rfl, rfl⟩, ⟨_, Tryd.underlying108, ⟨_, _, _, rfl⟩⟩⟩
theorem Tryd.ty109 : TyOk Tryd.prog 109 ⟨.func, 1, 8, [.nilFunc]⟩ := ⟨⟨Tryd.t109, _, by kernel_rfl, rfl, rfl, rfl, rfl, rfl, rfl⟩, ⟨_, Tryd.underlying109, ⟨_, _, _, rfl⟩⟩⟩
theorem Tryd.ty110 : TyOk Tryd.prog 110 ⟨.ptr 23, 1, 8, [.pointer none]⟩ := ⟨⟨Tryd.t110, _, by kernel_rfl, rfl, rfl, rfl, rfl, rfl, rfl⟩, ⟨_, Tryd.underlying110, rfl⟩⟩
theorem Tryd.ty111 : TyOk Tryd.prog 111 ⟨.ptr 25, 1, 8, [.pointer none]⟩ := ⟨⟨Tryd.t111, _, by kernel_rfl, rfl, rfl, rfl, rfl, rfl, rfl⟩, ⟨_, Tryd.underlying111, rfl⟩⟩
theorem Tryd.ty112 : TyOk Tryd.prog 112 ⟨.ptr 27, 1, 8, [.pointer none]⟩ := ⟨⟨Tryd.t112, _, by kernel_rfl, rfl, rfl, rfl, rfl, rfl, rfl⟩, ⟨_, Tryd.underlying112, rfl⟩⟩
theorem Tryd.ty113 : TyOk Tryd.prog 113 ⟨.ptr 29, 1, 8, [.pointer none]⟩ := ⟨⟨Tryd.t113, _, by kernel_rfl, rfl, rfl, rfl, rfl, rfl, rfl⟩, ⟨_, Tryd.underlying113, rfl⟩⟩
theorem Tryd.ty114 : TyOk Tryd.prog 114 ⟨.ptr 31, 1, 8, [.pointer none]⟩ := ⟨⟨Tryd.t114, _, by kernel_rfl, rfl, rfl, rfl, rfl, rfl, rfl⟩, ⟨_, Tryd.underlying114, rfl⟩⟩
theorem Tryd.ty115 : TyOk Tryd.prog 115 ⟨.ptr 33, 1, 8, [.pointer none]⟩ := ⟨⟨Tryd.t115, _, by kernel_rfl, rfl, rfl, rfl, rfl, rfl, rfl⟩, ⟨_, Tryd.underlying115, rfl⟩⟩
theorem Tryd.ty116 : TyOk Tryd.prog 116 ⟨.ptr 35, 1, 8, [.pointer none]⟩ := ⟨⟨Tryd.t116, _, by kernel_rfl, rfl, rfl, rfl, rfl, rfl, rfl⟩, ⟨_, Tryd.underlying116, rfl⟩⟩
theorem Tryd.ty117 : TyOk Tryd.prog 117 ⟨.ptr 37, 1, 8, [.pointer none]⟩ := ⟨⟨Tryd.t117, _, by kernel_rfl, rfl, rfl, rfl, rfl, rfl, rfl⟩, ⟨_, Tryd.underlying117, rfl⟩⟩
theorem Tryd.ty118 : TyOk Tryd.prog 118 ⟨.ptr 39, 1, 8, [.pointer none]⟩ := ⟨⟨Tryd.t118, _, by kernel_rfl, rfl, rfl, rfl, rfl, rfl, rfl⟩, ⟨_, Tryd.underlying118, rfl⟩⟩
theorem Tryd.ty119 : TyOk Tryd.prog 119 ⟨.ptr 41, 1, 8, [.pointer none]⟩ := ⟨⟨Tryd.t119, _, by kernel_rfl, rfl, rfl, rfl, rfl, rfl, rfl⟩, ⟨_, Tryd.underlying119, rfl⟩⟩
theorem Tryd.ty120 : TyOk Tryd.prog 120 ⟨.ptr 122, 1, 8, [.pointer none]⟩ := ⟨⟨Tryd.t120, _, by kernel_rfl, rfl, rfl, rfl, rfl, rfl, rfl⟩, ⟨_, Tryd.underlying120, rfl⟩⟩
theorem Tryd.ty121 : TyOk Tryd.prog 121 ⟨.struct [(0, 53), (1, 3), (2, 4)], 3, 40, [.slice none 0 0, .int .i64 0, .bool false]⟩ := ⟨⟨Tryd.t121, _, by kernel_rfl, rfl, rfl, rfl, rfl, rfl, rfl⟩, ⟨_, Tryd.underlying121, ⟨_, rfl, rfl⟩⟩⟩
theorem Tryd.ty122 : TyOk Tryd.prog 122 ⟨.struct [(0, 53), (1, 3), (2, 4)], 3, 40, [.slice none 0 0, .int .i64 0, .bool false]⟩ := ⟨⟨Tryd.t122, _, by kernel_rfl, rfl, rfl, rfl, rfl, rfl, rfl⟩, ⟨_, Tryd.underlying122, ⟨_, rfl, rfl⟩⟩⟩
theorem Tryd.ty123 : TyOk Tryd.prog 123 ⟨.func, 1, 8, [.nilFunc]⟩ := ⟨⟨Tryd.t123, _, by kernel_rfl, rfl, rfl, rfl, rfl, rfl, rfl⟩, ⟨_, Tryd.underlying123, ⟨_, _, _, rfl⟩⟩⟩
theorem Tryd.ty124 : TyOk Tryd.prog 124 ⟨.func, 1, 8, [.nilFunc]⟩ := ⟨⟨Tryd.t124, _, by kernel_rfl, rfl, rfl, rfl, rfl, rfl, rfl⟩, ⟨_, Tryd.underlying124, ⟨_, _, _, rfl⟩⟩⟩
theorem Tryd.ty125 : TyOk Tryd.prog 125 ⟨.int .u64, 1, 8, [.int .u64 0]⟩ := ⟨⟨Tryd.t125, _, by kernel_rfl, rfl, rfl, rfl, rfl, rfl, rfl⟩, ⟨_, Tryd.underlying125, rfl⟩⟩
theorem Tryd.ty126 : TyOk Tryd.prog 126 ⟨.func, 1, 8, [.nilFunc]⟩ := ⟨⟨Tryd.t126, _, by kernel_rfl, rfl, rfl, rfl, rfl, rfl, rfl⟩, ⟨_, Tryd.underlying126, ⟨_, _, _, rfl⟩⟩⟩
theorem Tryd.ty128 : TyOk Tryd.prog 128 ⟨.func, 1, 8, [.nilFunc]⟩ := ⟨⟨Tryd.t128, _, by kernel_rfl, rfl, rfl, rfl, rfl, rfl, rfl⟩, ⟨_, Tryd.underlying128, ⟨_, _, _, rfl⟩⟩⟩
theorem Tryd.ty129 : TyOk Tryd.prog 129 ⟨.array 4 102, 4, 32, [.nilFunc, .nilFunc, .nilFunc, .nilFunc]⟩ := ⟨⟨Tryd.t129, _, by kernel_rfl, rfl, rfl, rfl, rfl, rfl, rfl⟩, ⟨_, Tryd.underlying129, rfl⟩⟩
theorem Tryd.ty130 : TyOk Tryd.prog 130 ⟨.array 4 102, 4, 32, [.nilFunc, .nilFunc, .nilFunc, .nilFunc]⟩ := ⟨⟨Tryd.t130, _, by kernel_rfl, rfl, rfl, rfl, rfl, rfl, rfl⟩, ⟨_, Tryd.underlying130, rfl⟩⟩
theorem Tryd.ty131 : TyOk Tryd.prog 131 ⟨.func, 1, 8, [.nilFunc]⟩ := ⟨⟨Tryd.t131, _, by kernel_rfl, rfl, rfl, rfl, rfl, rfl, rfl⟩, ⟨_, Tryd.underlying131, ⟨_, _, _, rfl⟩⟩⟩
theorem Tryd.ty132 : TyOk Tryd.prog 132 ⟨.func, 1, 8, [.nilFunc]⟩ := ⟨⟨Tryd.t132, _, by kernel_rfl, rfl, rfl, rfl, rfl, rfl, rfl⟩, ⟨_, Tryd.underlying132, ⟨_, _, _, rfl⟩⟩⟩
theorem Tryd.ty133 : TyOk Tryd.prog 133 ⟨.func, 1, 8, [.nilFunc]⟩ := ⟨⟨Tryd.t133, _, by kernel_rfl, rfl, rfl, rfl, rfl, rfl, rfl⟩, ⟨_, Tryd.underlying133, ⟨_, _, _, rfl⟩⟩⟩
theorem Tryd.ty134 : TyOk Tryd.prog 134 ⟨.func, 1, 8, [.nilFunc]⟩ := ⟨⟨Tryd.t134, _, by kernel_rfl, rfl, rfl, rfl, rfl, rfl, rfl⟩, ⟨_, Tryd.underlying134, ⟨_, _, _, rfl⟩⟩⟩
theorem Tryd.ty135 : TyOk Tryd.prog 135 ⟨.func, 1, 8, [.nilFunc]⟩ := ⟨⟨Tryd.t135, _, by kernel_rfl, rfl, rfl, rfl, rfl, rfl, rfl⟩, ⟨_, Tryd.underlying135, ⟨_, _, _, rfl⟩⟩⟩
theorem Tryd.ty136 : TyOk Tryd.prog 136 ⟨.func, 1, 8, [.nilFunc]⟩ := ⟨⟨Tryd.t136, _, by kernel_rfl, rfl, rfl, rfl, rfl, rfl, rfl⟩, ⟨_, Tryd.underlying136, ⟨_, _, _, rfl⟩⟩⟩
theorem Tryd.ty137 : TyOk Tryd.prog 137 ⟨.int .u64, 1, 8, [.int .u64 0]⟩ := ⟨⟨Tryd.t137, _, by kernel_rfl, rfl, rfl, rfl, rfl, rfl, rfl⟩, ⟨_, Tryd.underlying137, rfl⟩⟩
theorem Tryd.ty138 : TyOk Tryd.prog 138 ⟨.array 4 4, 4, 4, [.bool false, .bool false, .bool false, .bool false]⟩ := ⟨⟨Tryd.t138, _, by kernel_rfl, rfl, rfl, rfl, rfl, rfl, rfl⟩, ⟨_, Tryd.underlying138, rfl⟩⟩
theorem Tryd.ty139 : TyOk Tryd.prog 139 ⟨.func, 1, 8, [.nilFunc]⟩ := ⟨⟨Tryd.t139, _, by kernel_rfl, rfl, rfl, rfl, rfl, rfl, rfl⟩, ⟨_, Tryd.underlying139, ⟨_, _, _, rfl⟩⟩⟩
theorem Tryd.ty140 : TyOk Tryd.prog 140 ⟨.struct [(0, 17), (1, 17), (2, 17), (3, 9)], 4, 40, [.pointer none, .pointer none, .pointer none, .string { data := #[] }]⟩ := ⟨⟨Tryd.t140, _, by kernel_rfl, rfl, rfl, rfl, rfl, rfl, rfl⟩, ⟨_, Tryd.underlying140, ⟨_, rfl, rfl⟩⟩⟩
theorem Tryd.ty141 : TyOk Tryd.prog 141 ⟨.struct [(0, 17), (1, 17), (2, 17), (3, 9)], 4, 40, [.pointer none, .pointer none, .pointer none, .string { data := #[] }]⟩ := ⟨⟨Tryd.t141, _, by kernel_rfl, rfl, rfl, rfl, rfl, rfl, rfl⟩, ⟨_, Tryd.underlying141, ⟨_, rfl, rfl⟩⟩⟩
theorem Tryd.ty142 : TyOk Tryd.prog 142 ⟨.array 0 16, 0, 0, []⟩ := ⟨⟨Tryd.t142, _, by kernel_rfl, rfl, rfl, rfl, rfl, rfl, rfl⟩, ⟨_, Tryd.underlying142, rfl⟩⟩
theorem Tryd.ty143 : TyOk Tryd.prog 143 ⟨.struct [(0, 142)], 0, 0, []⟩ := ⟨⟨Tryd.t143, _, by kernel_rfl, rfl, rfl, rfl, rfl, rfl, rfl⟩, ⟨_, Tryd.underlying143, ⟨_, rfl, rfl⟩⟩⟩
theorem Tryd.ty144 : TyOk Tryd.prog 144 ⟨.struct [(0, 142)], 0, 0, []⟩ := ⟨⟨Tryd.t144, _, by kernel_rfl, rfl, rfl, rfl, rfl, rfl, rfl⟩, ⟨_, Tryd.underlying144, ⟨_, rfl, rfl⟩⟩⟩
theorem Tryd.ty145 : TyOk Tryd.prog 145 ⟨.int .u32, 1, 4, [.int .u32 0]⟩ := ⟨⟨Tryd.t145, _, by kernel_rfl, rfl, rfl, rfl, rfl, rfl, rfl⟩, ⟨_, Tryd.underlying145, rfl⟩⟩
theorem Tryd.ty146 : TyOk Tryd.prog 146 ⟨.int .u8, 1, 1, [.int .u8 0]⟩ := ⟨⟨Tryd.t146, _, by kernel_rfl, rfl, rfl, rfl, rfl, rfl, rfl⟩, ⟨_, Tryd.underlying146, rfl⟩⟩
theorem Tryd.ty147 : TyOk Tryd.prog 147 ⟨.int .u8, 1, 1, [.int .u8 0]⟩ := ⟨⟨Tryd.t147, _, by kernel_rfl, rfl, rfl, rfl, rfl, rfl, rfl⟩, ⟨_, Tryd.underlying147, rfl⟩⟩
theorem Tryd.ty148 : TyOk Tryd.prog 148 ⟨.func, 1, 8, [.nilFunc]⟩ := ⟨⟨Tryd.t148, _, by kernel_rfl, rfl, rfl, rfl, rfl, rfl, rfl⟩, ⟨_, Tryd.underlying148, ⟨_, _, _, rfl⟩⟩⟩
theorem Tryd.ty149 : TyOk Tryd.prog 149 ⟨.ptr 5, 1, 8, [.pointer none]⟩ := ⟨⟨Tryd.t149, _, by kernel_rfl, rfl, rfl, rfl, rfl, rfl, rfl⟩, ⟨_, Tryd.underlying149, rfl⟩⟩
theorem Tryd.ty150 : TyOk Tryd.prog 150 ⟨.int .i32, 1, 4, [.int .i32 0]⟩ := ⟨⟨Tryd.t150, _, by kernel_rfl, rfl, rfl, rfl, rfl, rfl, rfl⟩, ⟨_, Tryd.underlying150, rfl⟩⟩
theorem Tryd.ty151 : TyOk Tryd.prog 151 ⟨.int .i32, 1, 4, [.int .i32 0]⟩ := ⟨⟨Tryd.t151, _, by kernel_rfl, rfl, rfl, rfl, rfl, rfl, rfl⟩, ⟨_, Tryd.underlying151, rfl⟩⟩
theorem Tryd.ty152 : TyOk Tryd.prog 152 ⟨.struct [(0, 12), (1, 12), (2, 145), (3, 146), (4, 5), (5, 5), (6, 147), (7, 148), (8, 149), (9, 150), (10, 151)], 11, 48, [.int .u64 0, .int .u64 0, .int .u32 0, .int .u8 0, .int .u8 0, .int .u8 0, .int .u8 0, .nilFunc, .pointer none, .int .i32 0, .int .i32 0]⟩ := ⟨⟨Tryd.t152, _, by kernel_rfl, rfl, rfl, rfl, rfl, rfl, rfl⟩, ⟨_, Tryd.underlying152, ⟨_, rfl, rfl⟩⟩⟩
theorem Tryd.ty153 : TyOk Tryd.prog 153 ⟨.struct [(0, 12), (1, 12), (2, 145), (3, 146), (4, 5), (5, 5), (6, 147), (7, 148), (8, 149), (9, 150), (10, 151)], 11, 48, [.int .u64 0, .int .u64 0, .int .u32 0, .int .u8 0, .int .u8 0, .int .u8 0, .int .u8 0, .nilFunc, .pointer none, .int .i32 0, .int .i32 0]⟩ := ⟨⟨Tryd.t153, _, by kernel_rfl, rfl, rfl, rfl, rfl, rfl, rfl⟩, ⟨_, Tryd.underlying153, ⟨_, rfl, rfl⟩⟩⟩

theorem Tryd.tab : TabOk Tryd.prog Tryd.τ := by
  intro T e h
  unfold Tryd.τ at h
  split at h
  · cases h; exact Tryd.ty1
  · cases h; exact Tryd.ty2
  · cases h; exact Tryd.ty3
  · cases h; exact Tryd.ty4
  · cases h; exact Tryd.ty5
  · cases h; exact Tryd.ty6
  · cases h; exact Tryd.ty7
  · cases h; exact Tryd.ty8
  · cases h; exact Tryd.ty9
  · cases h; exact Tryd.ty10
  · cases h; exact Tryd.ty11
  · cases h; exact Tryd.ty12
  · cases h; exact Tryd.ty13
  · cases h; exact Tryd.ty14
  · cases h; exact Tryd.ty15
  · cases h; exact Tryd.ty16
  · cases h; exact Tryd.ty17
  · cases h; exact Tryd.ty18
  · cases h; exact Tryd.ty19
  · cases h; exact Tryd.ty20
  · cases h; exact Tryd.ty21
  · cases h; exact Tryd.ty22
  · cases h; exact Tryd.ty23
  · cases h; exact Tryd.ty24
  · cases h; exact Tryd.ty25
  · cases h; exact Tryd.ty26
  · cases h; exact Tryd.ty27
  · cases h; exact Tryd.ty28
  · cases h; exact Tryd.ty29
  · cases h; exact Tryd.ty30
  · cases h; exact Tryd.ty31
  · cases h; exact Tryd.ty32
  · cases h; exact Tryd.ty33
  · cases h; exact Tryd.ty34
  · cases h; exact Tryd.ty35
  · cases h; exact Tryd.ty36
  · cases h; exact Tryd.ty37
  · cases h; exact Tryd.ty38
  · cases h; exact Tryd.ty39
  · cases h; exact Tryd.ty40
  · cases h; exact Tryd.ty41
  · cases h; exact Tryd.ty42
  · cases h; exact Tryd.ty43
  · cases h; exact Tryd.ty44
  · cases h; exact Tryd.ty45
  · cases h; exact Tryd.ty46
  · cases h; exact Tryd.ty47
  · cases h; exact Tryd.ty48
  · cases h; exact Tryd.ty49
  · cases h; exact Tryd.ty50
  · cases h; exact Tryd.ty51
  · cases h; exact Tryd.ty52
  · cases h; exact Tryd.ty53
  · cases h; exact Tryd.ty55
  · cases h; exact Tryd.ty57
  · cases h; exact Tryd.ty58
  · cases h; exact Tryd.ty59
  · cases h; exact Tryd.ty60
  · cases h; exact Tryd.ty61
  · cases h; exact Tryd.ty63
  · cases h; exact Tryd.ty64
  · cases h; exact Tryd.ty65
  · cases h; exact Tryd.ty66
  · cases h; exact Tryd.ty67
  · cases h; exact Tryd.ty68
  · cases h; exact Tryd.ty69
  · cases h; exact Tryd.ty71
  · cases h; exact Tryd.ty72
  · cases h; exact Tryd.ty73
  · cases h; exact Tryd.ty74
  · cases h; exact Tryd.ty75
  · cases h; exact Tryd.ty76
  · cases h; exact Tryd.ty77
  · cases h; exact Tryd.ty78
  · cases h; exact Tryd.ty79
  · cases h; exact Tryd.ty80
  · cases h; exact Tryd.ty81
  · cases h; exact Tryd.ty82
  · cases h; exact Tryd.ty83
  · cases h; exact Tryd.ty84
  · cases h; exact Tryd.ty85
  · cases h; exact Tryd.ty86
  · cases h; exact Tryd.ty87
  · cases h; exact Tryd.ty88
  · cases h; exact Tryd.ty89
  · cases h; exact Tryd.ty90
  · cases h; exact Tryd.ty92
  · cases h; exact Tryd.ty93
  · cases h; exact Tryd.ty94
  · cases h; exact Tryd.ty95
  · cases h; exact Tryd.ty96
  · cases h; exact Tryd.ty97
  · cases h; exact Tryd.ty98
  · cases h; exact Tryd.ty99
  · cases h; exact Tryd.ty100
  · cases h; exact Tryd.ty101
  · cases h; exact Tryd.ty102
  · cases h; exact Tryd.ty103
  · cases h; exact Tryd.ty104
  · cases h; exact Tryd.ty105
  · cases h; exact Tryd.ty106
  · cases h; exact Tryd.ty107
  · cases h; exact Tryd.ty108
  · cases h; exact Tryd.ty109
  · cases h; exact Tryd.ty110
  · cases h; exact Tryd.ty111
  · cases h; exact Tryd.ty112
  · cases h; exact Tryd.ty113
  · cases h; exact Tryd.ty114
  · cases h; exact Tryd.ty115
  · cases h; exact Tryd.ty116
  · cases h; exact Tryd.ty117
  · cases h; exact Tryd.ty118
  · cases h; exact Tryd.ty119
  · cases h; exact Tryd.ty120
  · cases h; exact Tryd.ty121
  · cases h; exact Tryd.ty122
  · cases h; exact Tryd.ty123
  · cases h; exact Tryd.ty124
  · cases h; exact Tryd.ty125
  · cases h; exact Tryd.ty126
  · cases h; exact Tryd.ty128
  · cases h; exact Tryd.ty129
  · cases h; exact Tryd.ty130
  · cases h; exact Tryd.ty131
  · cases h; exact Tryd.ty132
  · cases h; exact Tryd.ty133
  · cases h; exact Tryd.ty134
  · cases h; exact Tryd.ty135
  · cases h; exact Tryd.ty136
  · cases h; exact Tryd.ty137
  · cases h; exact Tryd.ty138
  · cases h; exact Tryd.ty139
  · cases h; exact Tryd.ty140
  · cases h; exact Tryd.ty141
  · cases h; exact Tryd.ty142
  · cases h; exact Tryd.ty143
  · cases h; exact Tryd.ty144
  · cases h; exact Tryd.ty145
  · cases h; exact Tryd.ty146
  · cases h; exact Tryd.ty147
  · cases h; exact Tryd.ty148
  · cases h; exact Tryd.ty149
  · cases h; exact Tryd.ty150
  · cases h; exact Tryd.ty151
  · cases h; exact Tryd.ty152
  · cases h; exact Tryd.ty153
  · cases h

theorem Tryd.mixed : Tryd.prog.follows .mixedOrders = true := by kernel_rfl

theorem Tryd.body3 : Body Tryd.prog 3 := ⟨Tryd.f3, _, Tryd.func3, rfl, by kernel_rfl⟩
theorem Tryd.body4 : Body Tryd.prog 4 := ⟨Tryd.f4, _, Tryd.func4, rfl, by kernel_rfl⟩
theorem Tryd.body5 : Body Tryd.prog 5 := ⟨Tryd.f5, _, Tryd.func5, rfl, by kernel_rfl⟩
theorem Tryd.body6 : Body Tryd.prog 6 := ⟨Tryd.f6, _, Tryd.func6, rfl, by kernel_rfl⟩
theorem Tryd.body7 : Body Tryd.prog 7 := ⟨Tryd.f7, _, Tryd.func7, rfl, by kernel_rfl⟩
theorem Tryd.body8 : Body Tryd.prog 8 := ⟨Tryd.f8, _, Tryd.func8, rfl, by kernel_rfl⟩
theorem Tryd.body9 : Body Tryd.prog 9 := ⟨Tryd.f9, _, Tryd.func9, rfl, by kernel_rfl⟩
theorem Tryd.body10 : Body Tryd.prog 10 := ⟨Tryd.f10, _, Tryd.func10, rfl, by kernel_rfl⟩
theorem Tryd.body11 : Body Tryd.prog 11 := ⟨Tryd.f11, _, Tryd.func11, rfl, by kernel_rfl⟩
theorem Tryd.body12 : Body Tryd.prog 12 := ⟨Tryd.f12, _, Tryd.func12, rfl, by kernel_rfl⟩
theorem Tryd.body13 : Body Tryd.prog 13 := ⟨Tryd.f13, _, Tryd.func13, rfl, by kernel_rfl⟩
theorem Tryd.body14 : Body Tryd.prog 14 := ⟨Tryd.f14, _, Tryd.func14, rfl, by kernel_rfl⟩
theorem Tryd.body15 : Body Tryd.prog 15 := ⟨Tryd.f15, _, Tryd.func15, rfl, by kernel_rfl⟩
theorem Tryd.body16 : Body Tryd.prog 16 := ⟨Tryd.f16, _, Tryd.func16, rfl, by kernel_rfl⟩
theorem Tryd.body17 : Body Tryd.prog 17 := ⟨Tryd.f17, _, Tryd.func17, rfl, by kernel_rfl⟩
theorem Tryd.body18 : Body Tryd.prog 18 := ⟨Tryd.f18, _, Tryd.func18, rfl, by kernel_rfl⟩
theorem Tryd.body19 : Body Tryd.prog 19 := ⟨Tryd.f19, _, Tryd.func19, rfl, by kernel_rfl⟩
theorem Tryd.body20 : Body Tryd.prog 20 := ⟨Tryd.f20, _, Tryd.func20, rfl, by kernel_rfl⟩
theorem Tryd.body21 : Body Tryd.prog 21 := ⟨Tryd.f21, _, Tryd.func21, rfl, by kernel_rfl⟩
theorem Tryd.body22 : Body Tryd.prog 22 := ⟨Tryd.f22, _, Tryd.func22, rfl, by kernel_rfl⟩
theorem Tryd.body23 : Body Tryd.prog 23 := ⟨Tryd.f23, _, Tryd.func23, rfl, by kernel_rfl⟩
theorem Tryd.body24 : Body Tryd.prog 24 := ⟨Tryd.f24, _, Tryd.func24, rfl, by kernel_rfl⟩
theorem Tryd.body25 : Body Tryd.prog 25 := ⟨Tryd.f25, _, Tryd.func25, rfl, by kernel_rfl⟩
theorem Tryd.body26 : Body Tryd.prog 26 := ⟨Tryd.f26, _, Tryd.func26, rfl, by kernel_rfl⟩
theorem Tryd.body27 : Body Tryd.prog 27 := ⟨Tryd.f27, _, Tryd.func27, rfl, by kernel_rfl⟩
theorem Tryd.body28 : Body Tryd.prog 28 := ⟨Tryd.f28, _, Tryd.func28, rfl, by kernel_rfl⟩
theorem Tryd.body29 : Body Tryd.prog 29 := ⟨Tryd.f29, _, Tryd.func29, rfl, by kernel_rfl⟩
theorem Tryd.body30 : Body Tryd.prog 30 := ⟨Tryd.f30, _, Tryd.func30, rfl, by kernel_rfl⟩
theorem Tryd.body31 : Body Tryd.prog 31 := ⟨Tryd.f31, _, Tryd.func31, rfl, by kernel_rfl⟩
theorem Tryd.body32 : Body Tryd.prog 32 := ⟨Tryd.f32, _, Tryd.func32, rfl, by kernel_rfl⟩
theorem Tryd.body33 : Body Tryd.prog 33 := ⟨Tryd.f33, _, Tryd.func33, rfl, by kernel_rfl⟩
theorem Tryd.body34 : Body Tryd.prog 34 := ⟨Tryd.f34, _, Tryd.func34, rfl, by kernel_rfl⟩
theorem Tryd.body35 : Body Tryd.prog 35 := ⟨Tryd.f35, _, Tryd.func35, rfl, by kernel_rfl⟩
theorem Tryd.body36 : Body Tryd.prog 36 := ⟨Tryd.f36, _, Tryd.func36, rfl, by kernel_rfl⟩
theorem Tryd.body37 : Body Tryd.prog 37 := ⟨Tryd.f37, _, Tryd.func37, rfl, by kernel_rfl⟩
theorem Tryd.body38 : Body Tryd.prog 38 := ⟨Tryd.f38, _, Tryd.func38, rfl, by kernel_rfl⟩
theorem Tryd.body39 : Body Tryd.prog 39 := ⟨Tryd.f39, _, Tryd.func39, rfl, by kernel_rfl⟩
theorem Tryd.body40 : Body Tryd.prog 40 := ⟨Tryd.f40, _, Tryd.func40, rfl, by kernel_rfl⟩
theorem Tryd.body41 : Body Tryd.prog 41 := ⟨Tryd.f41, _, Tryd.func41, rfl, by kernel_rfl⟩
theorem Tryd.body42 : Body Tryd.prog 42 := ⟨Tryd.f42, _, Tryd.func42, rfl, by kernel_rfl⟩
theorem Tryd.body43 : Body Tryd.prog 43 := ⟨Tryd.f43, _, Tryd.func43, rfl, by kernel_rfl⟩
theorem Tryd.body44 : Body Tryd.prog 44 := ⟨Tryd.f44, _, Tryd.func44, rfl, by kernel_rfl⟩
theorem Tryd.body45 : Body Tryd.prog 45 := ⟨Tryd.f45, _, Tryd.func45, rfl, by kernel_rfl⟩
theorem Tryd.body46 : Body Tryd.prog 46 := ⟨Tryd.f46, _, Tryd.func46, rfl, by kernel_rfl⟩
theorem Tryd.body47 : Body Tryd.prog 47 := ⟨Tryd.f47, _, Tryd.func47, rfl, by kernel_rfl⟩
theorem Tryd.body48 : Body Tryd.prog 48 := ⟨Tryd.f48, _, Tryd.func48, rfl, by kernel_rfl⟩
theorem Tryd.body49 : Body Tryd.prog 49 := ⟨Tryd.f49, _, Tryd.func49, rfl, by kernel_rfl⟩
theorem Tryd.body50 : Body Tryd.prog 50 := ⟨Tryd.f50, _, Tryd.func50, rfl, by kernel_rfl⟩
theorem Tryd.body51 : Body Tryd.prog 51 := ⟨Tryd.f51, _, Tryd.func51, rfl, by kernel_rfl⟩
theorem Tryd.body52 : Body Tryd.prog 52 := ⟨Tryd.f52, _, Tryd.func52, rfl, by kernel_rfl⟩
theorem Tryd.body53 : Body Tryd.prog 53 := ⟨Tryd.f53, _, Tryd.func53, rfl, by kernel_rfl⟩
theorem Tryd.body54 : Body Tryd.prog 54 := ⟨Tryd.f54, _, Tryd.func54, rfl, by kernel_rfl⟩
theorem Tryd.body55 : Body Tryd.prog 55 := ⟨Tryd.f55, _, Tryd.func55, rfl, by kernel_rfl⟩
theorem Tryd.body56 : Body Tryd.prog 56 := ⟨Tryd.f56, _, Tryd.func56, rfl, by kernel_rfl⟩
theorem Tryd.body57 : Body Tryd.prog 57 := ⟨Tryd.f57, _, Tryd.func57, rfl, by kernel_rfl⟩
theorem Tryd.body58 : Body Tryd.prog 58 := ⟨Tryd.f58, _, Tryd.func58, rfl, by kernel_rfl⟩
theorem Tryd.body60 : Body Tryd.prog 60 := ⟨Tryd.f60, _, Tryd.func60, rfl, by kernel_rfl⟩
theorem Tryd.body61 : Body Tryd.prog 61 := ⟨Tryd.f61, _, Tryd.func61, rfl, by kernel_rfl⟩
theorem Tryd.body62 : Body Tryd.prog 62 := ⟨Tryd.f62, _, Tryd.func62, rfl, by kernel_rfl⟩
theorem Tryd.body63 : Body Tryd.prog 63 := ⟨Tryd.f63, _, Tryd.func63, rfl, by kernel_rfl⟩
theorem Tryd.body64 : Body Tryd.prog 64 := ⟨Tryd.f64, _, Tryd.func64, rfl, by kernel_rfl⟩
theorem Tryd.body65 : Body Tryd.prog 65 := ⟨Tryd.f65, _, Tryd.func65, rfl, by kernel_rfl⟩
theorem Tryd.body66 : Body Tryd.prog 66 := ⟨Tryd.f66, _, Tryd.func66, rfl, by kernel_rfl⟩
theorem Tryd.body67 : Body Tryd.prog 67 := ⟨Tryd.f67, _, Tryd.func67, rfl, by kernel_rfl⟩
theorem Tryd.body68 : Body Tryd.prog 68 := ⟨Tryd.f68, _, Tryd.func68, rfl, by kernel_rfl⟩
theorem Tryd.body69 : Body Tryd.prog 69 := ⟨Tryd.f69, _, Tryd.func69, rfl, by kernel_rfl⟩
theorem Tryd.body70 : Body Tryd.prog 70 := ⟨Tryd.f70, _, Tryd.func70, rfl, by kernel_rfl⟩
theorem Tryd.body71 : Body Tryd.prog 71 := ⟨Tryd.f71, _, Tryd.func71, rfl, by kernel_rfl⟩
theorem Tryd.body72 : Body Tryd.prog 72 := ⟨Tryd.f72, _, Tryd.func72, rfl, by kernel_rfl⟩
theorem Tryd.body73 : Body Tryd.prog 73 := ⟨Tryd.f73, _, Tryd.func73, rfl, by kernel_rfl⟩
theorem Tryd.body74 : Body Tryd.prog 74 := ⟨Tryd.f74, _, Tryd.func74, rfl, by kernel_rfl⟩
theorem Tryd.body75 : Body Tryd.prog 75 := ⟨Tryd.f75, _, Tryd.func75, rfl, by kernel_rfl⟩
theorem Tryd.body76 : Body Tryd.prog 76 := ⟨Tryd.f76, _, Tryd.func76, rfl, by kernel_rfl⟩
theorem Tryd.body77 : Body Tryd.prog 77 := ⟨Tryd.f77, _, Tryd.func77, rfl, by kernel_rfl⟩
theorem Tryd.body78 : Body Tryd.prog 78 := ⟨Tryd.f78, _, Tryd.func78, rfl, by kernel_rfl⟩
theorem Tryd.body79 : Body Tryd.prog 79 := ⟨Tryd.f79, _, Tryd.func79, rfl, by kernel_rfl⟩
theorem Tryd.body80 : Body Tryd.prog 80 := ⟨Tryd.f80, _, Tryd.func80, rfl, by kernel_rfl⟩
theorem Tryd.body81 : Body Tryd.prog 81 := ⟨Tryd.f81, _, Tryd.func81, rfl, by kernel_rfl⟩
theorem Tryd.body82 : Body Tryd.prog 82 := ⟨Tryd.f82, _, Tryd.func82, rfl, by kernel_rfl⟩
theorem Tryd.body83 : Body Tryd.prog 83 := ⟨Tryd.f83, _, Tryd.func83, rfl, by kernel_rfl⟩
theorem Tryd.body84 : Body Tryd.prog 84 := ⟨Tryd.f84, _, Tryd.func84, rfl, by kernel_rfl⟩
instance : Glob := ⟨fun
  | 4 => some [.v (.int .i64 (-1099511627776)), .v (.int .i64 1099511627776)]
  | 2 => some [.v (.int .i64 0), .v (.int .i64 1099511627776)]
  | 3 => some [.v (.int .i64 1), .v (.int .i64 9999)]
  | 6 => some [.v (.int .i64 0), .v (.int .i64 39)]
  | 7 => some [.v (.int .i64 0), .v (.int .i64 255)]
  | 5 => some [.v (.int .i64 0), .v (.int .i64 1048576)]
  | 8 => some [.v (.int .i64 0), .v (.int .i64 255)]
  | 9 => some [.v (.int .i64 1), .v (.int .i64 1048576)]
  | 0 => some [.v (.int .i64 0), .v (.int .i64 31)]
  | 1 => some [.v (.int .i64 1), .v (.int .i64 1048576)]
  | 10 => some [.v (.int .i64 0), .v (.int .i64 1)]
  | _ => none⟩
@[simp] theorem Tryd.laid4 : (Glob.laid 4 : Option (List D)) = some [.v (.int .i64 (-1099511627776)), .v (.int .i64 1099511627776)] := rfl
@[simp] theorem Tryd.laid2 : (Glob.laid 2 : Option (List D)) = some [.v (.int .i64 0), .v (.int .i64 1099511627776)] := rfl
@[simp] theorem Tryd.laid3 : (Glob.laid 3 : Option (List D)) = some [.v (.int .i64 1), .v (.int .i64 9999)] := rfl
@[simp] theorem Tryd.laid6 : (Glob.laid 6 : Option (List D)) = some [.v (.int .i64 0), .v (.int .i64 39)] := rfl
@[simp] theorem Tryd.laid7 : (Glob.laid 7 : Option (List D)) = some [.v (.int .i64 0), .v (.int .i64 255)] := rfl
@[simp] theorem Tryd.laid5 : (Glob.laid 5 : Option (List D)) = some [.v (.int .i64 0), .v (.int .i64 1048576)] := rfl
@[simp] theorem Tryd.laid8 : (Glob.laid 8 : Option (List D)) = some [.v (.int .i64 0), .v (.int .i64 255)] := rfl
@[simp] theorem Tryd.laid9 : (Glob.laid 9 : Option (List D)) = some [.v (.int .i64 1), .v (.int .i64 1048576)] := rfl
@[simp] theorem Tryd.laid0 : (Glob.laid 0 : Option (List D)) = some [.v (.int .i64 0), .v (.int .i64 31)] := rfl
@[simp] theorem Tryd.laid1 : (Glob.laid 1 : Option (List D)) = some [.v (.int .i64 1), .v (.int .i64 1048576)] := rfl
@[simp] theorem Tryd.laid10 : (Glob.laid 10 : Option (List D)) = some [.v (.int .i64 0), .v (.int .i64 1)] := rfl

end Go.Proofs.YtjfkeicmdaanbaaDoor
