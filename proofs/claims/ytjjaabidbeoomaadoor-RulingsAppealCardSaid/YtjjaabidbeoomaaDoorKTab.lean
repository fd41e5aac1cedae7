/-
  The types of the seat, for the engine. Printed by seatgen.py.
-/
import Derived.Test.YtjjaabidbeoomaaDoorRows
import Derived.Test.YtjjaabidbeoomaaDoorK3
set_option linter.unusedVariables false
set_option linter.unusedSimpArgs false
set_option linter.unusedSectionVars false
namespace Go.Proofs.YtjjaabidbeoomaaDoor
open Go.Xe

def Tryd.tL : List (Option TE) := [
  none,
  some ⟨.func, 1, 8, [.nilFunc]⟩,
  some ⟨.int .i64, 1, 8, [.int .i64 0]⟩,
  some ⟨.int .i64, 1, 8, [.int .i64 0]⟩,
  some ⟨.bool, 1, 1, [.bool false]⟩,
  some ⟨.int .u8, 1, 1, [.int .u8 0]⟩,
  some ⟨.int .u8, 1, 1, [.int .u8 0]⟩,
  some ⟨.struct [(0, 2), (1, 3), (2, 4), (3, 6)], 4, 24, [.int .i64 0, .int .i64 0, .bool false, .int .u8 0]⟩,
  some ⟨.struct [(0, 2), (1, 3), (2, 4), (3, 6)], 4, 24, [.int .i64 0, .int .i64 0, .bool false, .int .u8 0]⟩,
  some ⟨.string, 1, 16, [.string { data := #[] }]⟩,
  some ⟨.string, 1, 16, [.string { data := #[] }]⟩,
  some ⟨.string, 1, 16, [.string { data := #[] }]⟩,
  some ⟨.int .u64, 1, 8, [.int .u64 0]⟩,
  some ⟨.struct [(0, 9), (1, 12)], 2, 24, [.string { data := #[] }, .int .u64 0]⟩,
  some ⟨.struct [(0, 9), (1, 12)], 2, 24, [.string { data := #[] }, .int .u64 0]⟩,
  some ⟨.ptr 175, 1, 8, [.pointer none]⟩,
  some ⟨.ptr 178, 1, 8, [.pointer none]⟩,
  some ⟨.ptr 187, 1, 8, [.pointer none]⟩,
  some ⟨.struct [(0, 17)], 1, 8, [.pointer none]⟩,
  some ⟨.struct [(0, 17)], 1, 8, [.pointer none]⟩,
  some ⟨.iface, 1, 16, [.nilIface]⟩,
  some ⟨.int .i32, 1, 4, [.int .i32 0]⟩,
  some ⟨.slice 49, 1, 24, [.slice none 0 0]⟩,
  some ⟨.func, 1, 8, [.nilFunc]⟩,
  some ⟨.struct [(0, 3), (1, 3), (2, 3), (3, 3), (4, 3), (5, 3), (6, 3), (7, 3)], 8, 64, [.int .i64 0, .int .i64 0, .int .i64 0, .int .i64 0, .int .i64 0, .int .i64 0, .int .i64 0, .int .i64 0]⟩,
  some ⟨.struct [(0, 3), (1, 3), (2, 3), (3, 3), (4, 3), (5, 3), (6, 3), (7, 3)], 8, 64, [.int .i64 0, .int .i64 0, .int .i64 0, .int .i64 0, .int .i64 0, .int .i64 0, .int .i64 0, .int .i64 0]⟩,
  some ⟨.struct [(0, 3), (1, 3), (2, 3), (3, 3)], 4, 32, [.int .i64 0, .int .i64 0, .int .i64 0, .int .i64 0]⟩,
  some ⟨.struct [(0, 3), (1, 3), (2, 3), (3, 3)], 4, 32, [.int .i64 0, .int .i64 0, .int .i64 0, .int .i64 0]⟩,
  some ⟨.struct [(0, 3), (1, 3), (2, 3), (3, 3), (4, 3)], 5, 40, [.int .i64 0, .int .i64 0, .int .i64 0, .int .i64 0, .int .i64 0]⟩,
  some ⟨.struct [(0, 3), (1, 3), (2, 3), (3, 3), (4, 3)], 5, 40, [.int .i64 0, .int .i64 0, .int .i64 0, .int .i64 0, .int .i64 0]⟩,
  some ⟨.struct [(0, 3), (1, 3), (2, 3), (3, 3), (4, 3), (5, 3), (6, 3), (7, 3)], 8, 64, [.int .i64 0, .int .i64 0, .int .i64 0, .int .i64 0, .int .i64 0, .int .i64 0, .int .i64 0, .int .i64 0]⟩,
  some ⟨.struct [(0, 3), (1, 3), (2, 3), (3, 3), (4, 3), (5, 3), (6, 3), (7, 3)], 8, 64, [.int .i64 0, .int .i64 0, .int .i64 0, .int .i64 0, .int .i64 0, .int .i64 0, .int .i64 0, .int .i64 0]⟩,
  some ⟨.struct [(0, 3), (1, 3), (2, 3), (3, 3)], 4, 32, [.int .i64 0, .int .i64 0, .int .i64 0, .int .i64 0]⟩,
  some ⟨.struct [(0, 3), (1, 3), (2, 3), (3, 3)], 4, 32, [.int .i64 0, .int .i64 0, .int .i64 0, .int .i64 0]⟩,
  some ⟨.struct [(0, 3), (1, 3), (2, 3), (3, 3)], 4, 32, [.int .i64 0, .int .i64 0, .int .i64 0, .int .i64 0]⟩,
  some ⟨.struct [(0, 3), (1, 3), (2, 3), (3, 3)], 4, 32, [.int .i64 0, .int .i64 0, .int .i64 0, .int .i64 0]⟩,
  some ⟨.struct [(0, 3), (1, 3)], 2, 16, [.int .i64 0, .int .i64 0]⟩,
  some ⟨.struct [(0, 3), (1, 3)], 2, 16, [.int .i64 0, .int .i64 0]⟩,
  some ⟨.struct [(0, 3), (1, 3), (2, 3), (3, 3)], 4, 32, [.int .i64 0, .int .i64 0, .int .i64 0, .int .i64 0]⟩,
  some ⟨.struct [(0, 3), (1, 3), (2, 3), (3, 3)], 4, 32, [.int .i64 0, .int .i64 0, .int .i64 0, .int .i64 0]⟩,
  some ⟨.struct [(0, 3), (1, 3), (2, 3), (3, 3)], 4, 32, [.int .i64 0, .int .i64 0, .int .i64 0, .int .i64 0]⟩,
  some ⟨.struct [(0, 3), (1, 3), (2, 3), (3, 3)], 4, 32, [.int .i64 0, .int .i64 0, .int .i64 0, .int .i64 0]⟩,
  some ⟨.struct [(0, 3), (1, 3), (2, 3), (3, 3), (4, 3), (5, 3)], 6, 48, [.int .i64 0, .int .i64 0, .int .i64 0, .int .i64 0, .int .i64 0, .int .i64 0]⟩,
  some ⟨.struct [(0, 3), (1, 3), (2, 3), (3, 3), (4, 3), (5, 3)], 6, 48, [.int .i64 0, .int .i64 0, .int .i64 0, .int .i64 0, .int .i64 0, .int .i64 0]⟩,
  some ⟨.struct [(0, 3), (1, 4)], 2, 16, [.int .i64 0, .bool false]⟩,
  some ⟨.struct [(0, 3), (1, 4)], 2, 16, [.int .i64 0, .bool false]⟩,
  some ⟨.struct [(0, 3), (1, 3)], 2, 16, [.int .i64 0, .int .i64 0]⟩,
  some ⟨.struct [(0, 3), (1, 3)], 2, 16, [.int .i64 0, .int .i64 0]⟩,
  some ⟨.struct [(0, 3), (1, 3), (2, 3), (3, 3), (4, 25), (12, 27), (16, 29), (21, 31), (29, 33), (33, 35), (37, 37), (39, 39), (43, 41), (47, 43), (53, 45), (55, 47)], 57, 456, [.int .i64 0, .int .i64 0, .int .i64 0, .int .i64 0, .int .i64 0, .int .i64 0, .int .i64 0, .int .i64 0, .int .i64 0, .int .i64 0, .int .i64 0, .int .i64 0, .int .i64 0, .int .i64 0, .int .i64 0, .int .i64 0, .int .i64 0, .int .i64 0, .int .i64 0, .int .i64 0, .int .i64 0, .int .i64 0, .int .i64 0, .int .i64 0, .int .i64 0, .int .i64 0, .int .i64 0, .int .i64 0, .int .i64 0, .int .i64 0, .int .i64 0, .int .i64 0, .int .i64 0, .int .i64 0, .int .i64 0, .int .i64 0, .int .i64 0, .int .i64 0, .int .i64 0, .int .i64 0, .int .i64 0, .int .i64 0, .int .i64 0, .int .i64 0, .int .i64 0, .int .i64 0, .int .i64 0, .int .i64 0, .int .i64 0, .int .i64 0, .int .i64 0, .int .i64 0, .int .i64 0, .int .i64 0, .bool false, .int .i64 0, .int .i64 0]⟩,
  some ⟨.struct [(0, 3), (1, 3), (2, 3), (3, 3), (4, 25), (12, 27), (16, 29), (21, 31), (29, 33), (33, 35), (37, 37), (39, 39), (43, 41), (47, 43), (53, 45), (55, 47)], 57, 456, [.int .i64 0, .int .i64 0, .int .i64 0, .int .i64 0, .int .i64 0, .int .i64 0, .int .i64 0, .int .i64 0, .int .i64 0, .int .i64 0, .int .i64 0, .int .i64 0, .int .i64 0, .int .i64 0, .int .i64 0, .int .i64 0, .int .i64 0, .int .i64 0, .int .i64 0, .int .i64 0, .int .i64 0, .int .i64 0, .int .i64 0, .int .i64 0, .int .i64 0, .int .i64 0, .int .i64 0, .int .i64 0, .int .i64 0, .int .i64 0, .int .i64 0, .int .i64 0, .int .i64 0, .int .i64 0, .int .i64 0, .int .i64 0, .int .i64 0, .int .i64 0, .int .i64 0, .int .i64 0, .int .i64 0, .int .i64 0, .int .i64 0, .int .i64 0, .int .i64 0, .int .i64 0, .int .i64 0, .int .i64 0, .int .i64 0, .int .i64 0, .int .i64 0, .int .i64 0, .int .i64 0, .int .i64 0, .bool false, .int .i64 0, .int .i64 0]⟩,
  some ⟨.int .i64, 1, 8, [.int .i64 0]⟩,
  some ⟨.func, 1, 8, [.nilFunc]⟩,
  some ⟨.func, 1, 8, [.nilFunc]⟩,
  some ⟨.slice 43, 1, 24, [.slice none 0 0]⟩,
  some ⟨.func, 1, 8, [.nilFunc]⟩,
  some ⟨.func, 1, 8, [.nilFunc]⟩,
  some ⟨.slice 47, 1, 24, [.slice none 0 0]⟩,
  some ⟨.func, 1, 8, [.nilFunc]⟩,
  some ⟨.func, 1, 8, [.nilFunc]⟩,
  some ⟨.slice 39, 1, 24, [.slice none 0 0]⟩,
  some ⟨.func, 1, 8, [.nilFunc]⟩,
  some ⟨.func, 1, 8, [.nilFunc]⟩,
  none,
  some ⟨.func, 1, 8, [.nilFunc]⟩,
  some ⟨.func, 1, 8, [.nilFunc]⟩,
  some ⟨.func, 1, 8, [.nilFunc]⟩,
  some ⟨.func, 1, 8, [.nilFunc]⟩,
  some ⟨.func, 1, 8, [.nilFunc]⟩,
  some ⟨.func, 1, 8, [.nilFunc]⟩,
  some ⟨.slice 3, 1, 24, [.slice none 0 0]⟩,
  none,
  some ⟨.func, 1, 8, [.nilFunc]⟩,
  some ⟨.slice 74, 1, 24, [.slice none 0 0]⟩,
  some ⟨.func, 1, 8, [.nilFunc]⟩,
  some ⟨.ptr 78, 1, 8, [.pointer none]⟩,
  some ⟨.func, 1, 8, [.nilFunc]⟩,
  some ⟨.array 3 22, 3, 72, [.slice none 0 0, .slice none 0 0, .slice none 0 0]⟩,
  some ⟨.struct [(0, 3), (1, 76), (4, 59), (5, 4)], 6, 112, [.int .i64 0, .slice none 0 0, .slice none 0 0, .slice none 0 0, .slice none 0 0, .bool false]⟩,
  some ⟨.struct [(0, 3), (1, 76), (4, 59), (5, 4)], 6, 112, [.int .i64 0, .slice none 0 0, .slice none 0 0, .slice none 0 0, .slice none 0 0, .bool false]⟩,
  some ⟨.func, 1, 8, [.nilFunc]⟩,
  some ⟨.func, 1, 8, [.nilFunc]⟩,
  some ⟨.func, 1, 8, [.nilFunc]⟩,
  some ⟨.func, 1, 8, [.nilFunc]⟩,
  some ⟨.slice 5, 1, 24, [.slice none 0 0]⟩,
  none,
  some ⟨.func, 1, 8, [.nilFunc]⟩,
  some ⟨.func, 1, 8, [.nilFunc]⟩,
  some ⟨.slice 99, 1, 24, [.slice none 0 0]⟩,
  some ⟨.struct [(0, 87), (1, 23)], 2, 32, [.slice none 0 0, .nilFunc]⟩,
  some ⟨.struct [(0, 87), (1, 23)], 2, 32, [.slice none 0 0, .nilFunc]⟩,
  none,
  some ⟨.func, 1, 8, [.nilFunc]⟩,
  some ⟨.ptr 49, 1, 8, [.pointer none]⟩,
  some ⟨.ptr 3, 1, 8, [.pointer none]⟩,
  some ⟨.func, 1, 8, [.nilFunc]⟩,
  some ⟨.func, 1, 8, [.nilFunc]⟩,
  some ⟨.struct [(0, 3), (1, 3)], 2, 16, [.int .i64 0, .int .i64 0]⟩,
  some ⟨.struct [(0, 3), (1, 3)], 2, 16, [.int .i64 0, .int .i64 0]⟩,
  some ⟨.struct [(0, 93), (1, 97)], 3, 24, [.pointer none, .int .i64 0, .int .i64 0]⟩,
  some ⟨.struct [(0, 93), (1, 97)], 3, 24, [.pointer none, .int .i64 0, .int .i64 0]⟩,
  some ⟨.map 3 74, 1, 8, [.map none]⟩,
  some ⟨.func, 1, 8, [.nilFunc]⟩,
  some ⟨.func, 1, 8, [.nilFunc]⟩,
  some ⟨.func, 1, 8, [.nilFunc]⟩,
  some ⟨.func, 1, 8, [.nilFunc]⟩,
  some ⟨.func, 1, 8, [.nilFunc]⟩,
  some ⟨.func, 1, 8, [.nilFunc]⟩,
  some ⟨.func, 1, 8, [.nilFunc]⟩,
  some ⟨.func, 1, 8, [.nilFunc]⟩,
  some ⟨.func, 1, 8, [.nilFunc]⟩,
  some ⟨.func, 1, 8, [.nilFunc]⟩,
  some ⟨.slice 113, 1, 24, [.slice none 0 0]⟩,
  some ⟨.struct [(0, 3), (1, 3), (2, 9), (3, 111)], 4, 56, [.int .i64 0, .int .i64 0, .string { data := #[] }, .slice none 0 0]⟩,
  some ⟨.struct [(0, 3), (1, 3), (2, 9), (3, 111)], 4, 56, [.int .i64 0, .int .i64 0, .string { data := #[] }, .slice none 0 0]⟩,
  some ⟨.func, 1, 8, [.nilFunc]⟩,
  some ⟨.ptr 25, 1, 8, [.pointer none]⟩,
  some ⟨.ptr 27, 1, 8, [.pointer none]⟩,
  some ⟨.ptr 29, 1, 8, [.pointer none]⟩,
  some ⟨.ptr 31, 1, 8, [.pointer none]⟩,
  some ⟨.ptr 33, 1, 8, [.pointer none]⟩,
  some ⟨.ptr 35, 1, 8, [.pointer none]⟩,
  some ⟨.ptr 37, 1, 8, [.pointer none]⟩,
  some ⟨.ptr 39, 1, 8, [.pointer none]⟩,
  some ⟨.ptr 41, 1, 8, [.pointer none]⟩,
  some ⟨.ptr 43, 1, 8, [.pointer none]⟩,
  some ⟨.func, 1, 8, [.nilFunc]⟩,
  some ⟨.func, 1, 8, [.nilFunc]⟩,
  some ⟨.func, 1, 8, [.nilFunc]⟩,
  some ⟨.func, 1, 8, [.nilFunc]⟩,
  some ⟨.func, 1, 8, [.nilFunc]⟩,
  some ⟨.func, 1, 8, [.nilFunc]⟩,
  some ⟨.int .u64, 1, 8, [.int .u64 0]⟩,
  some ⟨.func, 1, 8, [.nilFunc]⟩,
  some ⟨.func, 1, 8, [.nilFunc]⟩,
  some ⟨.struct [(0, 133)], 1, 8, [.nilFunc]⟩,
  some ⟨.struct [(0, 133)], 1, 8, [.nilFunc]⟩,
  some ⟨.ptr 153, 1, 8, [.pointer none]⟩,
  some ⟨.func, 1, 8, [.nilFunc]⟩,
  some ⟨.func, 1, 8, [.nilFunc]⟩,
  some ⟨.func, 1, 8, [.nilFunc]⟩,
  some ⟨.int .i64, 1, 8, [.int .i64 0]⟩,
  none,
  some ⟨.func, 1, 8, [.nilFunc]⟩,
  some ⟨.func, 1, 8, [.nilFunc]⟩,
  some ⟨.func, 1, 8, [.nilFunc]⟩,
  none,
  some ⟨.func, 1, 8, [.nilFunc]⟩,
  some ⟨.func, 1, 8, [.nilFunc]⟩,
  some ⟨.int .u32, 1, 4, [.int .u32 0]⟩,
  some ⟨.func, 1, 8, [.nilFunc]⟩,
  some ⟨.int .u64, 1, 8, [.int .u64 0]⟩,
  some ⟨.func, 1, 8, [.nilFunc]⟩,
  some ⟨.array 4 135, 4, 32, [.nilFunc, .nilFunc, .nilFunc, .nilFunc]⟩,
  some ⟨.array 4 135, 4, 32, [.nilFunc, .nilFunc, .nilFunc, .nilFunc]⟩,
  some ⟨.func, 1, 8, [.nilFunc]⟩,
  some ⟨.func, 1, 8, [.nilFunc]⟩,
  some ⟨.func, 1, 8, [.nilFunc]⟩,
  some ⟨.func, 1, 8, [.nilFunc]⟩,
  some ⟨.func, 1, 8, [.nilFunc]⟩,
  some ⟨.func, 1, 8, [.nilFunc]⟩,
  some ⟨.func, 1, 8, [.nilFunc]⟩,
  some ⟨.int .u64, 1, 8, [.int .u64 0]⟩,
  some ⟨.func, 1, 8, [.nilFunc]⟩,
  some ⟨.func, 1, 8, [.nilFunc]⟩,
  some ⟨.func, 1, 8, [.nilFunc]⟩,
  some ⟨.func, 1, 8, [.nilFunc]⟩,
  some ⟨.array 4 4, 4, 4, [.bool false, .bool false, .bool false, .bool false]⟩,
  some ⟨.func, 1, 8, [.nilFunc]⟩,
  some ⟨.func, 1, 8, [.nilFunc]⟩,
  some ⟨.ptr 161, 1, 8, [.pointer none]⟩,
  none,
  some ⟨.func, 1, 8, [.nilFunc]⟩,
  some ⟨.func, 1, 8, [.nilFunc]⟩,
  some ⟨.func, 1, 8, [.nilFunc]⟩,
  some ⟨.struct [(0, 17), (1, 17), (2, 17), (3, 9)], 4, 40, [.pointer none, .pointer none, .pointer none, .string { data := #[] }]⟩,
  some ⟨.struct [(0, 17), (1, 17), (2, 17), (3, 9)], 4, 40, [.pointer none, .pointer none, .pointer none, .string { data := #[] }]⟩,
  some ⟨.array 0 16, 0, 0, []⟩,
  some ⟨.struct [(0, 176)], 0, 0, []⟩,
  some ⟨.struct [(0, 176)], 0, 0, []⟩,
  some ⟨.func, 1, 8, [.nilFunc]⟩,
  some ⟨.int .u8, 1, 1, [.int .u8 0]⟩,
  some ⟨.int .u8, 1, 1, [.int .u8 0]⟩,
  some ⟨.func, 1, 8, [.nilFunc]⟩,
  some ⟨.ptr 5, 1, 8, [.pointer none]⟩,
  some ⟨.int .i32, 1, 4, [.int .i32 0]⟩,
  some ⟨.int .i32, 1, 4, [.int .i32 0]⟩,
  some ⟨.struct [(0, 12), (1, 12), (2, 148), (3, 180), (4, 5), (5, 5), (6, 181), (7, 182), (8, 183), (9, 184), (10, 185)], 11, 48, [.int .u64 0, .int .u64 0, .int .u32 0, .int .u8 0, .int .u8 0, .int .u8 0, .int .u8 0, .nilFunc, .pointer none, .int .i32 0, .int .i32 0]⟩,
  some ⟨.struct [(0, 12), (1, 12), (2, 148), (3, 180), (4, 5), (5, 5), (6, 181), (7, 182), (8, 183), (9, 184), (10, 185)], 11, 48, [.int .u64 0, .int .u64 0, .int .u32 0, .int .u8 0, .int .u8 0, .int .u8 0, .int .u8 0, .nilFunc, .pointer none, .int .i32 0, .int .i32 0]⟩]
def Tryd.τ : Tab := fun T => Tryd.tL[T]?.bind id

def AllOk (P : Program) : Nat → List (Option TE) → Prop
  | _, [] => True
  | n, none :: l => AllOk P (n + 1) l
  | n, some e :: l => TyOk P n e ∧ AllOk P (n + 1) l
theorem AllOk.at {P : Program} : ∀ (l : List (Option TE)) (n i : Nat) (e : TE), AllOk P n l → l[i]? = some (some e) → TyOk P (n + i) e
  | [], _, _, _, _, h => by simp at h
  | none :: l, n, 0, _, _, h => by simp at h
  | none :: l, n, i + 1, e, h, hi => by have := AllOk.at l (n + 1) i e h (by simpa using hi); rwa [Nat.add_assoc, Nat.add_comm 1 i] at this
  | some d :: l, n, 0, e, h, hi => by simp at hi; subst hi; exact h.1
  | some d :: l, n, i + 1, e, h, hi => by have := AllOk.at l (n + 1) i e h.2 (by simpa using hi); rwa [Nat.add_assoc, Nat.add_comm 1 i] at this
@[simp] theorem Tryd.τ1 : Tryd.τ 1 = some ⟨.func, 1, 8, [.nilFunc]⟩ := rfl
@[simp] theorem Tryd.τ2 : Tryd.τ 2 = some ⟨.int .i64, 1, 8, [.int .i64 0]⟩ := rfl
@[simp] theorem Tryd.τ3 : Tryd.τ 3 = some ⟨.int .i64, 1, 8, [.int .i64 0]⟩ := rfl
@[simp] theorem Tryd.τ4 : Tryd.τ 4 = some ⟨.bool, 1, 1, [.bool false]⟩ := rfl
@[simp] theorem Tryd.τ5 : Tryd.τ 5 = some ⟨.int .u8, 1, 1, [.int .u8 0]⟩ := rfl
@[simp] theorem Tryd.τ6 : Tryd.τ 6 = some ⟨.int .u8, 1, 1, [.int .u8 0]⟩ := rfl
@[simp] theorem Tryd.τ7 : Tryd.τ 7 = some ⟨.struct [(0, 2), (1, 3), (2, 4), (3, 6)], 4, 24, [.int .i64 0, .int .i64 0, .bool false, .int .u8 0]⟩ := rfl
@[simp] theorem Tryd.τ8 : Tryd.τ 8 = some ⟨.struct [(0, 2), (1, 3), (2, 4), (3, 6)], 4, 24, [.int .i64 0, .int .i64 0, .bool false, .int .u8 0]⟩ := rfl
@[simp] theorem Tryd.τ9 : Tryd.τ 9 = some ⟨.string, 1, 16, [.string { data := #[] }]⟩ := rfl
@[simp] theorem Tryd.τ10 : Tryd.τ 10 = some ⟨.string, 1, 16, [.string { data := #[] }]⟩ := rfl
@[simp] theorem Tryd.τ11 : Tryd.τ 11 = some ⟨.string, 1, 16, [.string { data := #[] }]⟩ := rfl
@[simp] theorem Tryd.τ12 : Tryd.τ 12 = some ⟨.int .u64, 1, 8, [.int .u64 0]⟩ := rfl
@[simp] theorem Tryd.τ13 : Tryd.τ 13 = some ⟨.struct [(0, 9), (1, 12)], 2, 24, [.string { data := #[] }, .int .u64 0]⟩ := rfl
@[simp] theorem Tryd.τ14 : Tryd.τ 14 = some ⟨.struct [(0, 9), (1, 12)], 2, 24, [.string { data := #[] }, .int .u64 0]⟩ := rfl
@[simp] theorem Tryd.τ15 : Tryd.τ 15 = some ⟨.ptr 175, 1, 8, [.pointer none]⟩ := rfl
@[simp] theorem Tryd.τ16 : Tryd.τ 16 = some ⟨.ptr 178, 1, 8, [.pointer none]⟩ := rfl
@[simp] theorem Tryd.τ17 : Tryd.τ 17 = some ⟨.ptr 187, 1, 8, [.pointer none]⟩ := rfl
@[simp] theorem Tryd.τ18 : Tryd.τ 18 = some ⟨.struct [(0, 17)], 1, 8, [.pointer none]⟩ := rfl
@[simp] theorem Tryd.τ19 : Tryd.τ 19 = some ⟨.struct [(0, 17)], 1, 8, [.pointer none]⟩ := rfl
@[simp] theorem Tryd.τ20 : Tryd.τ 20 = some ⟨.iface, 1, 16, [.nilIface]⟩ := rfl
@[simp] theorem Tryd.τ21 : Tryd.τ 21 = some ⟨.int .i32, 1, 4, [.int .i32 0]⟩ := rfl
@[simp] theorem Tryd.τ22 : Tryd.τ 22 = some ⟨.slice 49, 1, 24, [.slice none 0 0]⟩ := rfl
@[simp] theorem Tryd.τ23 : Tryd.τ 23 = some ⟨.func, 1, 8, [.nilFunc]⟩ := rfl
@[simp] theorem Tryd.τ24 : Tryd.τ 24 = some ⟨.struct [(0, 3), (1, 3), (2, 3), (3, 3), (4, 3), (5, 3), (6, 3), (7, 3)], 8, 64, [.int .i64 0, .int .i64 0, .int .i64 0, .int .i64 0, .int .i64 0, .int .i64 0, .int .i64 0, .int .i64 0]⟩ := rfl
@[simp] theorem Tryd.τ25 : Tryd.τ 25 = some ⟨.struct [(0, 3), (1, 3), (2, 3), (3, 3), (4, 3), (5, 3), (6, 3), (7, 3)], 8, 64, [.int .i64 0, .int .i64 0, .int .i64 0, .int .i64 0, .int .i64 0, .int .i64 0, .int .i64 0, .int .i64 0]⟩ := rfl
@[simp] theorem Tryd.τ26 : Tryd.τ 26 = some ⟨.struct [(0, 3), (1, 3), (2, 3), (3, 3)], 4, 32, [.int .i64 0, .int .i64 0, .int .i64 0, .int .i64 0]⟩ := rfl
@[simp] theorem Tryd.τ27 : Tryd.τ 27 = some ⟨.struct [(0, 3), (1, 3), (2, 3), (3, 3)], 4, 32, [.int .i64 0, .int .i64 0, .int .i64 0, .int .i64 0]⟩ := rfl
@[simp] theorem Tryd.τ28 : Tryd.τ 28 = some ⟨.struct [(0, 3), (1, 3), (2, 3), (3, 3), (4, 3)], 5, 40, [.int .i64 0, .int .i64 0, .int .i64 0, .int .i64 0, .int .i64 0]⟩ := rfl
@[simp] theorem Tryd.τ29 : Tryd.τ 29 = some ⟨.struct [(0, 3), (1, 3), (2, 3), (3, 3), (4, 3)], 5, 40, [.int .i64 0, .int .i64 0, .int .i64 0, .int .i64 0, .int .i64 0]⟩ := rfl
@[simp] theorem Tryd.τ30 : Tryd.τ 30 = some ⟨.struct [(0, 3), (1, 3), (2, 3), (3, 3), (4, 3), (5, 3), (6, 3), (7, 3)], 8, 64, [.int .i64 0, .int .i64 0, .int .i64 0, .int .i64 0, .int .i64 0, .int .i64 0, .int .i64 0, .int .i64 0]⟩ := rfl
@[simp] theorem Tryd.τ31 : Tryd.τ 31 = some ⟨.struct [(0, 3), (1, 3), (2, 3), (3, 3), (4, 3), (5, 3), (6, 3), (7, 3)], 8, 64, [.int .i64 0, .int .i64 0, .int .i64 0, .int .i64 0, .int .i64 0, .int .i64 0, .int .i64 0, .int .i64 0]⟩ := rfl
@[simp] theorem Tryd.τ32 : Tryd.τ 32 = some ⟨.struct [(0, 3), (1, 3), (2, 3), (3, 3)], 4, 32, [.int .i64 0, .int .i64 0, .int .i64 0, .int .i64 0]⟩ := rfl
@[simp] theorem Tryd.τ33 : Tryd.τ 33 = some ⟨.struct [(0, 3), (1, 3), (2, 3), (3, 3)], 4, 32, [.int .i64 0, .int .i64 0, .int .i64 0, .int .i64 0]⟩ := rfl
@[simp] theorem Tryd.τ34 : Tryd.τ 34 = some ⟨.struct [(0, 3), (1, 3), (2, 3), (3, 3)], 4, 32, [.int .i64 0, .int .i64 0, .int .i64 0, .int .i64 0]⟩ := rfl
@[simp] theorem Tryd.τ35 : Tryd.τ 35 = some ⟨.struct [(0, 3), (1, 3), (2, 3), (3, 3)], 4, 32, [.int .i64 0, .int .i64 0, .int .i64 0, .int .i64 0]⟩ := rfl
@[simp] theorem Tryd.τ36 : Tryd.τ 36 = some ⟨.struct [(0, 3), (1, 3)], 2, 16, [.int .i64 0, .int .i64 0]⟩ := rfl
@[simp] theorem Tryd.τ37 : Tryd.τ 37 = some ⟨.struct [(0, 3), (1, 3)], 2, 16, [.int .i64 0, .int .i64 0]⟩ := rfl
@[simp] theorem Tryd.τ38 : Tryd.τ 38 = some ⟨.struct [(0, 3), (1, 3), (2, 3), (3, 3)], 4, 32, [.int .i64 0, .int .i64 0, .int .i64 0, .int .i64 0]⟩ := rfl
@[simp] theorem Tryd.τ39 : Tryd.τ 39 = some ⟨.struct [(0, 3), (1, 3), (2, 3), (3, 3)], 4, 32, [.int .i64 0, .int .i64 0, .int .i64 0, .int .i64 0]⟩ := rfl
@[simp] theorem Tryd.τ40 : Tryd.τ 40 = some ⟨.struct [(0, 3), (1, 3), (2, 3), (3, 3)], 4, 32, [.int .i64 0, .int .i64 0, .int .i64 0, .int .i64 0]⟩ := rfl
@[simp] theorem Tryd.τ41 : Tryd.τ 41 = some ⟨.struct [(0, 3), (1, 3), (2, 3), (3, 3)], 4, 32, [.int .i64 0, .int .i64 0, .int .i64 0, .int .i64 0]⟩ := rfl
@[simp] theorem Tryd.τ42 : Tryd.τ 42 = some ⟨.struct [(0, 3), (1, 3), (2, 3), (3, 3), (4, 3), (5, 3)], 6, 48, [.int .i64 0, .int .i64 0, .int .i64 0, .int .i64 0, .int .i64 0, .int .i64 0]⟩ := rfl
@[simp] theorem Tryd.τ43 : Tryd.τ 43 = some ⟨.struct [(0, 3), (1, 3), (2, 3), (3, 3), (4, 3), (5, 3)], 6, 48, [.int .i64 0, .int .i64 0, .int .i64 0, .int .i64 0, .int .i64 0, .int .i64 0]⟩ := rfl
@[simp] theorem Tryd.τ44 : Tryd.τ 44 = some ⟨.struct [(0, 3), (1, 4)], 2, 16, [.int .i64 0, .bool false]⟩ := rfl
@[simp] theorem Tryd.τ45 : Tryd.τ 45 = some ⟨.struct [(0, 3), (1, 4)], 2, 16, [.int .i64 0, .bool false]⟩ := rfl
@[simp] theorem Tryd.τ46 : Tryd.τ 46 = some ⟨.struct [(0, 3), (1, 3)], 2, 16, [.int .i64 0, .int .i64 0]⟩ := rfl
@[simp] theorem Tryd.τ47 : Tryd.τ 47 = some ⟨.struct [(0, 3), (1, 3)], 2, 16, [.int .i64 0, .int .i64 0]⟩ := rfl
@[simp] theorem Tryd.τ48 : Tryd.τ 48 = some ⟨.struct [(0, 3), (1, 3), (2, 3), (3, 3), (4, 25), (12, 27), (16, 29), (21, 31), (29, 33), (33, 35), (37, 37), (39, 39), (43, 41), (47, 43), (53, 45), (55, 47)], 57, 456, [.int .i64 0, .int .i64 0, .int .i64 0, .int .i64 0, .int .i64 0, .int .i64 0, .int .i64 0, .int .i64 0, .int .i64 0, .int .i64 0, .int .i64 0, .int .i64 0, .int .i64 0, .int .i64 0, .int .i64 0, .int .i64 0, .int .i64 0, .int .i64 0, .int .i64 0, .int .i64 0, .int .i64 0, .int .i64 0, .int .i64 0, .int .i64 0, .int .i64 0, .int .i64 0, .int .i64 0, .int .i64 0, .int .i64 0, .int .i64 0, .int .i64 0, .int .i64 0, .int .i64 0, .int .i64 0, .int .i64 0, .int .i64 0, .int .i64 0, .int .i64 0, .int .i64 0, .int .i64 0, .int .i64 0, .int .i64 0, .int .i64 0, .int .i64 0, .int .i64 0, .int .i64 0, .int .i64 0, .int .i64 0, .int .i64 0, .int .i64 0, .int .i64 0, .int .i64 0, .int .i64 0, .int .i64 0, .bool false, .int .i64 0, .int .i64 0]⟩ := rfl
@[simp] theorem Tryd.τ49 : Tryd.τ 49 = some ⟨.struct [(0, 3), (1, 3), (2, 3), (3, 3), (4, 25), (12, 27), (16, 29), (21, 31), (29, 33), (33, 35), (37, 37), (39, 39), (43, 41), (47, 43), (53, 45), (55, 47)], 57, 456, [.int .i64 0, .int .i64 0, .int .i64 0, .int .i64 0, .int .i64 0, .int .i64 0, .int .i64 0, .int .i64 0, .int .i64 0, .int .i64 0, .int .i64 0, .int .i64 0, .int .i64 0, .int .i64 0, .int .i64 0, .int .i64 0, .int .i64 0, .int .i64 0, .int .i64 0, .int .i64 0, .int .i64 0, .int .i64 0, .int .i64 0, .int .i64 0, .int .i64 0, .int .i64 0, .int .i64 0, .int .i64 0, .int .i64 0, .int .i64 0, .int .i64 0, .int .i64 0, .int .i64 0, .int .i64 0, .int .i64 0, .int .i64 0, .int .i64 0, .int .i64 0, .int .i64 0, .int .i64 0, .int .i64 0, .int .i64 0, .int .i64 0, .int .i64 0, .int .i64 0, .int .i64 0, .int .i64 0, .int .i64 0, .int .i64 0, .int .i64 0, .int .i64 0, .int .i64 0, .int .i64 0, .int .i64 0, .bool false, .int .i64 0, .int .i64 0]⟩ := rfl
@[simp] theorem Tryd.τ50 : Tryd.τ 50 = some ⟨.int .i64, 1, 8, [.int .i64 0]⟩ := rfl
@[simp] theorem Tryd.τ51 : Tryd.τ 51 = some ⟨.func, 1, 8, [.nilFunc]⟩ := rfl
@[simp] theorem Tryd.τ52 : Tryd.τ 52 = some ⟨.func, 1, 8, [.nilFunc]⟩ := rfl
@[simp] theorem Tryd.τ53 : Tryd.τ 53 = some ⟨.slice 43, 1, 24, [.slice none 0 0]⟩ := rfl
@[simp] theorem Tryd.τ54 : Tryd.τ 54 = some ⟨.func, 1, 8, [.nilFunc]⟩ := rfl
@[simp] theorem Tryd.τ55 : Tryd.τ 55 = some ⟨.func, 1, 8, [.nilFunc]⟩ := rfl
@[simp] theorem Tryd.τ56 : Tryd.τ 56 = some ⟨.slice 47, 1, 24, [.slice none 0 0]⟩ := rfl
@[simp] theorem Tryd.τ57 : Tryd.τ 57 = some ⟨.func, 1, 8, [.nilFunc]⟩ := rfl
@[simp] theorem Tryd.τ58 : Tryd.τ 58 = some ⟨.func, 1, 8, [.nilFunc]⟩ := rfl
@[simp] theorem Tryd.τ59 : Tryd.τ 59 = some ⟨.slice 39, 1, 24, [.slice none 0 0]⟩ := rfl
@[simp] theorem Tryd.τ60 : Tryd.τ 60 = some ⟨.func, 1, 8, [.nilFunc]⟩ := rfl
@[simp] theorem Tryd.τ61 : Tryd.τ 61 = some ⟨.func, 1, 8, [.nilFunc]⟩ := rfl
@[simp] theorem Tryd.τ63 : Tryd.τ 63 = some ⟨.func, 1, 8, [.nilFunc]⟩ := rfl
@[simp] theorem Tryd.τ64 : Tryd.τ 64 = some ⟨.func, 1, 8, [.nilFunc]⟩ := rfl
@[simp] theorem Tryd.τ65 : Tryd.τ 65 = some ⟨.func, 1, 8, [.nilFunc]⟩ := rfl
@[simp] theorem Tryd.τ66 : Tryd.τ 66 = some ⟨.func, 1, 8, [.nilFunc]⟩ := rfl
@[simp] theorem Tryd.τ67 : Tryd.τ 67 = some ⟨.func, 1, 8, [.nilFunc]⟩ := rfl
@[simp] theorem Tryd.τ68 : Tryd.τ 68 = some ⟨.func, 1, 8, [.nilFunc]⟩ := rfl
@[simp] theorem Tryd.τ69 : Tryd.τ 69 = some ⟨.slice 3, 1, 24, [.slice none 0 0]⟩ := rfl
@[simp] theorem Tryd.τ71 : Tryd.τ 71 = some ⟨.func, 1, 8, [.nilFunc]⟩ := rfl
@[simp] theorem Tryd.τ72 : Tryd.τ 72 = some ⟨.slice 74, 1, 24, [.slice none 0 0]⟩ := rfl
@[simp] theorem Tryd.τ73 : Tryd.τ 73 = some ⟨.func, 1, 8, [.nilFunc]⟩ := rfl
@[simp] theorem Tryd.τ74 : Tryd.τ 74 = some ⟨.ptr 78, 1, 8, [.pointer none]⟩ := rfl
@[simp] theorem Tryd.τ75 : Tryd.τ 75 = some ⟨.func, 1, 8, [.nilFunc]⟩ := rfl
@[simp] theorem Tryd.τ76 : Tryd.τ 76 = some ⟨.array 3 22, 3, 72, [.slice none 0 0, .slice none 0 0, .slice none 0 0]⟩ := rfl
@[simp] theorem Tryd.τ77 : Tryd.τ 77 = some ⟨.struct [(0, 3), (1, 76), (4, 59), (5, 4)], 6, 112, [.int .i64 0, .slice none 0 0, .slice none 0 0, .slice none 0 0, .slice none 0 0, .bool false]⟩ := rfl
@[simp] theorem Tryd.τ78 : Tryd.τ 78 = some ⟨.struct [(0, 3), (1, 76), (4, 59), (5, 4)], 6, 112, [.int .i64 0, .slice none 0 0, .slice none 0 0, .slice none 0 0, .slice none 0 0, .bool false]⟩ := rfl
@[simp] theorem Tryd.τ79 : Tryd.τ 79 = some ⟨.func, 1, 8, [.nilFunc]⟩ := rfl
@[simp] theorem Tryd.τ80 : Tryd.τ 80 = some ⟨.func, 1, 8, [.nilFunc]⟩ := rfl
@[simp] theorem Tryd.τ81 : Tryd.τ 81 = some ⟨.func, 1, 8, [.nilFunc]⟩ := rfl
@[simp] theorem Tryd.τ82 : Tryd.τ 82 = some ⟨.func, 1, 8, [.nilFunc]⟩ := rfl
@[simp] theorem Tryd.τ83 : Tryd.τ 83 = some ⟨.slice 5, 1, 24, [.slice none 0 0]⟩ := rfl
@[simp] theorem Tryd.τ85 : Tryd.τ 85 = some ⟨.func, 1, 8, [.nilFunc]⟩ := rfl
@[simp] theorem Tryd.τ86 : Tryd.τ 86 = some ⟨.func, 1, 8, [.nilFunc]⟩ := rfl
@[simp] theorem Tryd.τ87 : Tryd.τ 87 = some ⟨.slice 99, 1, 24, [.slice none 0 0]⟩ := rfl
@[simp] theorem Tryd.τ88 : Tryd.τ 88 = some ⟨.struct [(0, 87), (1, 23)], 2, 32, [.slice none 0 0, .nilFunc]⟩ := rfl
@[simp] theorem Tryd.τ89 : Tryd.τ 89 = some ⟨.struct [(0, 87), (1, 23)], 2, 32, [.slice none 0 0, .nilFunc]⟩ := rfl
@[simp] theorem Tryd.τ91 : Tryd.τ 91 = some ⟨.func, 1, 8, [.nilFunc]⟩ := rfl
@[simp] theorem Tryd.τ92 : Tryd.τ 92 = some ⟨.ptr 49, 1, 8, [.pointer none]⟩ := rfl
@[simp] theorem Tryd.τ93 : Tryd.τ 93 = some ⟨.ptr 3, 1, 8, [.pointer none]⟩ := rfl
@[simp] theorem Tryd.τ94 : Tryd.τ 94 = some ⟨.func, 1, 8, [.nilFunc]⟩ := rfl
@[simp] theorem Tryd.τ95 : Tryd.τ 95 = some ⟨.func, 1, 8, [.nilFunc]⟩ := rfl
@[simp] theorem Tryd.τ96 : Tryd.τ 96 = some ⟨.struct [(0, 3), (1, 3)], 2, 16, [.int .i64 0, .int .i64 0]⟩ := rfl
@[simp] theorem Tryd.τ97 : Tryd.τ 97 = some ⟨.struct [(0, 3), (1, 3)], 2, 16, [.int .i64 0, .int .i64 0]⟩ := rfl
@[simp] theorem Tryd.τ98 : Tryd.τ 98 = some ⟨.struct [(0, 93), (1, 97)], 3, 24, [.pointer none, .int .i64 0, .int .i64 0]⟩ := rfl
@[simp] theorem Tryd.τ99 : Tryd.τ 99 = some ⟨.struct [(0, 93), (1, 97)], 3, 24, [.pointer none, .int .i64 0, .int .i64 0]⟩ := rfl
@[simp] theorem Tryd.τ100 : Tryd.τ 100 = some ⟨.map 3 74, 1, 8, [.map none]⟩ := rfl
@[simp] theorem Tryd.τ101 : Tryd.τ 101 = some ⟨.func, 1, 8, [.nilFunc]⟩ := rfl
@[simp] theorem Tryd.τ102 : Tryd.τ 102 = some ⟨.func, 1, 8, [.nilFunc]⟩ := rfl
@[simp] theorem Tryd.τ103 : Tryd.τ 103 = some ⟨.func, 1, 8, [.nilFunc]⟩ := rfl
@[simp] theorem Tryd.τ104 : Tryd.τ 104 = some ⟨.func, 1, 8, [.nilFunc]⟩ := rfl
@[simp] theorem Tryd.τ105 : Tryd.τ 105 = some ⟨.func, 1, 8, [.nilFunc]⟩ := rfl
@[simp] theorem Tryd.τ106 : Tryd.τ 106 = some ⟨.func, 1, 8, [.nilFunc]⟩ := rfl
@[simp] theorem Tryd.τ107 : Tryd.τ 107 = some ⟨.func, 1, 8, [.nilFunc]⟩ := rfl
@[simp] theorem Tryd.τ108 : Tryd.τ 108 = some ⟨.func, 1, 8, [.nilFunc]⟩ := rfl
@[simp] theorem Tryd.τ109 : Tryd.τ 109 = some ⟨.func, 1, 8, [.nilFunc]⟩ := rfl
@[simp] theorem Tryd.τ110 : Tryd.τ 110 = some ⟨.func, 1, 8, [.nilFunc]⟩ := rfl
@[simp] theorem Tryd.τ111 : Tryd.τ 111 = some ⟨.slice 113, 1, 24, [.slice none 0 0]⟩ := rfl
@[simp] theorem Tryd.τ112 : Tryd.τ 112 = some ⟨.struct [(0, 3), (1, 3), (2, 9), (3, 111)], 4, 56, [.int .i64 0, .int .i64 0, .string { data := #[] }, .slice none 0 0]⟩ := rfl
@[simp] theorem Tryd.τ113 : Tryd.τ 113 = some ⟨.struct [(0, 3), (1, 3), (2, 9), (3, 111)], 4, 56, [.int .i64 0, .int .i64 0, .string { data := #[] }, .slice none 0 0]⟩ := rfl
@[simp] theorem Tryd.τ114 : Tryd.τ 114 = some ⟨.func, 1, 8, [.nilFunc]⟩ := rfl
@[simp] theorem Tryd.τ115 : Tryd.τ 115 = some ⟨.ptr 25, 1, 8, [.pointer none]⟩ := rfl
@[simp] theorem Tryd.τ116 : Tryd.τ 116 = some ⟨.ptr 27, 1, 8, [.pointer none]⟩ := rfl
@[simp] theorem Tryd.τ117 : Tryd.τ 117 = some ⟨.ptr 29, 1, 8, [.pointer none]⟩ := rfl
@[simp] theorem Tryd.τ118 : Tryd.τ 118 = some ⟨.ptr 31, 1, 8, [.pointer none]⟩ := rfl
@[simp] theorem Tryd.τ119 : Tryd.τ 119 = some ⟨.ptr 33, 1, 8, [.pointer none]⟩ := rfl
@[simp] theorem Tryd.τ120 : Tryd.τ 120 = some ⟨.ptr 35, 1, 8, [.pointer none]⟩ := rfl
@[simp] theorem Tryd.τ121 : Tryd.τ 121 = some ⟨.ptr 37, 1, 8, [.pointer none]⟩ := rfl
@[simp] theorem Tryd.τ122 : Tryd.τ 122 = some ⟨.ptr 39, 1, 8, [.pointer none]⟩ := rfl
@[simp] theorem Tryd.τ123 : Tryd.τ 123 = some ⟨.ptr 41, 1, 8, [.pointer none]⟩ := rfl
@[simp] theorem Tryd.τ124 : Tryd.τ 124 = some ⟨.ptr 43, 1, 8, [.pointer none]⟩ := rfl
@[simp] theorem Tryd.τ125 : Tryd.τ 125 = some ⟨.func, 1, 8, [.nilFunc]⟩ := rfl
@[simp] theorem Tryd.τ126 : Tryd.τ 126 = some ⟨.func, 1, 8, [.nilFunc]⟩ := rfl
@[simp] theorem Tryd.τ127 : Tryd.τ 127 = some ⟨.func, 1, 8, [.nilFunc]⟩ := rfl
@[simp] theorem Tryd.τ128 : Tryd.τ 128 = some ⟨.func, 1, 8, [.nilFunc]⟩ := rfl
@[simp] theorem Tryd.τ129 : Tryd.τ 129 = some ⟨.func, 1, 8, [.nilFunc]⟩ := rfl
@[simp] theorem Tryd.τ130 : Tryd.τ 130 = some ⟨.func, 1, 8, [.nilFunc]⟩ := rfl
@[simp] theorem Tryd.τ131 : Tryd.τ 131 = some ⟨.int .u64, 1, 8, [.int .u64 0]⟩ := rfl
@[simp] theorem Tryd.τ132 : Tryd.τ 132 = some ⟨.func, 1, 8, [.nilFunc]⟩ := rfl
@[simp] theorem Tryd.τ133 : Tryd.τ 133 = some ⟨.func, 1, 8, [.nilFunc]⟩ := rfl
@[simp] theorem Tryd.τ134 : Tryd.τ 134 = some ⟨.struct [(0, 133)], 1, 8, [.nilFunc]⟩ := rfl
@[simp] theorem Tryd.τ135 : Tryd.τ 135 = some ⟨.struct [(0, 133)], 1, 8, [.nilFunc]⟩ := rfl
@[simp] theorem Tryd.τ136 : Tryd.τ 136 = some ⟨.ptr 153, 1, 8, [.pointer none]⟩ := rfl
@[simp] theorem Tryd.τ137 : Tryd.τ 137 = some ⟨.func, 1, 8, [.nilFunc]⟩ := rfl
@[simp] theorem Tryd.τ138 : Tryd.τ 138 = some ⟨.func, 1, 8, [.nilFunc]⟩ := rfl
@[simp] theorem Tryd.τ139 : Tryd.τ 139 = some ⟨.func, 1, 8, [.nilFunc]⟩ := rfl
@[simp] theorem Tryd.τ140 : Tryd.τ 140 = some ⟨.int .i64, 1, 8, [.int .i64 0]⟩ := rfl
@[simp] theorem Tryd.τ142 : Tryd.τ 142 = some ⟨.func, 1, 8, [.nilFunc]⟩ := rfl
@[simp] theorem Tryd.τ143 : Tryd.τ 143 = some ⟨.func, 1, 8, [.nilFunc]⟩ := rfl
@[simp] theorem Tryd.τ144 : Tryd.τ 144 = some ⟨.func, 1, 8, [.nilFunc]⟩ := rfl
@[simp] theorem Tryd.τ146 : Tryd.τ 146 = some ⟨.func, 1, 8, [.nilFunc]⟩ := rfl
@[simp] theorem Tryd.τ147 : Tryd.τ 147 = some ⟨.func, 1, 8, [.nilFunc]⟩ := rfl
@[simp] theorem Tryd.τ148 : Tryd.τ 148 = some ⟨.int .u32, 1, 4, [.int .u32 0]⟩ := rfl
@[simp] theorem Tryd.τ149 : Tryd.τ 149 = some ⟨.func, 1, 8, [.nilFunc]⟩ := rfl
@[simp] theorem Tryd.τ150 : Tryd.τ 150 = some ⟨.int .u64, 1, 8, [.int .u64 0]⟩ := rfl
@[simp] theorem Tryd.τ151 : Tryd.τ 151 = some ⟨.func, 1, 8, [.nilFunc]⟩ := rfl
@[simp] theorem Tryd.τ152 : Tryd.τ 152 = some ⟨.array 4 135, 4, 32, [.nilFunc, .nilFunc, .nilFunc, .nilFunc]⟩ := rfl
@[simp] theorem Tryd.τ153 : Tryd.τ 153 = some ⟨.array 4 135, 4, 32, [.nilFunc, .nilFunc, .nilFunc, .nilFunc]⟩ := rfl
@[simp] theorem Tryd.τ154 : Tryd.τ 154 = some ⟨.func, 1, 8, [.nilFunc]⟩ := rfl
@[simp] theorem Tryd.τ155 : Tryd.τ 155 = some ⟨.func, 1, 8, [.nilFunc]⟩ := rfl
@[simp] theorem Tryd.τ156 : Tryd.τ 156 = some ⟨.func, 1, 8, [.nilFunc]⟩ := rfl
@[simp] theorem Tryd.τ157 : Tryd.τ 157 = some ⟨.func, 1, 8, [.nilFunc]⟩ := rfl
@[simp] theorem Tryd.τ158 : Tryd.τ 158 = some ⟨.func, 1, 8, [.nilFunc]⟩ := rfl
@[simp] theorem Tryd.τ159 : Tryd.τ 159 = some ⟨.func, 1, 8, [.nilFunc]⟩ := rfl
@[simp] theorem Tryd.τ160 : Tryd.τ 160 = some ⟨.func, 1, 8, [.nilFunc]⟩ := rfl
@[simp] theorem Tryd.τ161 : Tryd.τ 161 = some ⟨.int .u64, 1, 8, [.int .u64 0]⟩ := rfl
@[simp] theorem Tryd.τ162 : Tryd.τ 162 = some ⟨.func, 1, 8, [.nilFunc]⟩ := rfl
@[simp] theorem Tryd.τ163 : Tryd.τ 163 = some ⟨.func, 1, 8, [.nilFunc]⟩ := rfl
@[simp] theorem Tryd.τ164 : Tryd.τ 164 = some ⟨.func, 1, 8, [.nilFunc]⟩ := rfl
@[simp] theorem Tryd.τ165 : Tryd.τ 165 = some ⟨.func, 1, 8, [.nilFunc]⟩ := rfl
@[simp] theorem Tryd.τ166 : Tryd.τ 166 = some ⟨.array 4 4, 4, 4, [.bool false, .bool false, .bool false, .bool false]⟩ := rfl
@[simp] theorem Tryd.τ167 : Tryd.τ 167 = some ⟨.func, 1, 8, [.nilFunc]⟩ := rfl
@[simp] theorem Tryd.τ168 : Tryd.τ 168 = some ⟨.func, 1, 8, [.nilFunc]⟩ := rfl
@[simp] theorem Tryd.τ169 : Tryd.τ 169 = some ⟨.ptr 161, 1, 8, [.pointer none]⟩ := rfl
@[simp] theorem Tryd.τ171 : Tryd.τ 171 = some ⟨.func, 1, 8, [.nilFunc]⟩ := rfl
@[simp] theorem Tryd.τ172 : Tryd.τ 172 = some ⟨.func, 1, 8, [.nilFunc]⟩ := rfl
@[simp] theorem Tryd.τ173 : Tryd.τ 173 = some ⟨.func, 1, 8, [.nilFunc]⟩ := rfl
@[simp] theorem Tryd.τ174 : Tryd.τ 174 = some ⟨.struct [(0, 17), (1, 17), (2, 17), (3, 9)], 4, 40, [.pointer none, .pointer none, .pointer none, .string { data := #[] }]⟩ := rfl
@[simp] theorem Tryd.τ175 : Tryd.τ 175 = some ⟨.struct [(0, 17), (1, 17), (2, 17), (3, 9)], 4, 40, [.pointer none, .pointer none, .pointer none, .string { data := #[] }]⟩ := rfl
@[simp] theorem Tryd.τ176 : Tryd.τ 176 = some ⟨.array 0 16, 0, 0, []⟩ := rfl
@[simp] theorem Tryd.τ177 : Tryd.τ 177 = some ⟨.struct [(0, 176)], 0, 0, []⟩ := rfl
@[simp] theorem Tryd.τ178 : Tryd.τ 178 = some ⟨.struct [(0, 176)], 0, 0, []⟩ := rfl
@[simp] theorem Tryd.τ179 : Tryd.τ 179 = some ⟨.func, 1, 8, [.nilFunc]⟩ := rfl
@[simp] theorem Tryd.τ180 : Tryd.τ 180 = some ⟨.int .u8, 1, 1, [.int .u8 0]⟩ := rfl
@[simp] theorem Tryd.τ181 : Tryd.τ 181 = some ⟨.int .u8, 1, 1, [.int .u8 0]⟩ := rfl
@[simp] theorem Tryd.τ182 : Tryd.τ 182 = some ⟨.func, 1, 8, [.nilFunc]⟩ := rfl
@[simp] theorem Tryd.τ183 : Tryd.τ 183 = some ⟨.ptr 5, 1, 8, [.pointer none]⟩ := rfl
@[simp] theorem Tryd.τ184 : Tryd.τ 184 = some ⟨.int .i32, 1, 4, [.int .i32 0]⟩ := rfl
@[simp] theorem Tryd.τ185 : Tryd.τ 185 = some ⟨.int .i32, 1, 4, [.int .i32 0]⟩ := rfl
@[simp] theorem Tryd.τ186 : Tryd.τ 186 = some ⟨.struct [(0, 12), (1, 12), (2, 148), (3, 180), (4, 5), (5, 5), (6, 181), (7, 182), (8, 183), (9, 184), (10, 185)], 11, 48, [.int .u64 0, .int .u64 0, .int .u32 0, .int .u8 0, .int .u8 0, .int .u8 0, .int .u8 0, .nilFunc, .pointer none, .int .i32 0, .int .i32 0]⟩ := rfl
@[simp] theorem Tryd.τ187 : Tryd.τ 187 = some ⟨.struct [(0, 12), (1, 12), (2, 148), (3, 180), (4, 5), (5, 5), (6, 181), (7, 182), (8, 183), (9, 184), (10, 185)], 11, 48, [.int .u64 0, .int .u64 0, .int .u32 0, .int .u8 0, .int .u8 0, .int .u8 0, .int .u8 0, .nilFunc, .pointer none, .int .i32 0, .int .i32 0]⟩ := rfl
set_option maxRecDepth 100000 in
theorem Tryd.ty1 : TyOk Tryd.prog 1 ⟨.func, 1, 8, [.nilFunc]⟩ := ⟨⟨Tryd.t1, _, by kernel_rfl, rfl, rfl, rfl, rfl, rfl, rfl⟩, ⟨_, Tryd.underlying1, ⟨_, _, _, rfl⟩⟩⟩
theorem Tryd.ty2 : TyOk Tryd.prog 2 ⟨.int .i64, 1, 8, [.int .i64 0]⟩ := ⟨⟨Tryd.t2, _, by kernel_rfl, rfl, rfl, rfl, rfl, rfl, rfl⟩, ⟨_, Tryd.underlying2, rfl⟩⟩
theorem Tryd.ty3 : TyOk Tryd.prog 3 ⟨.int .i64, 1, 8, [.int .i64 0]⟩ := ⟨⟨Tryd.t3, _, by kernel_rfl, rfl, rfl, rfl, rfl, rfl, rfl⟩, ⟨_, Tryd.underlying3, rfl⟩⟩
theorem Tryd.ty4 : TyOk Tryd.prog 4 ⟨.bool, 1, 1, [.bool false]⟩ := ⟨⟨Tryd.t4, _, by kernel_rfl, rfl, rfl, rfl, rfl, rfl, rfl⟩, ⟨_, Tryd.underlying4, rfl⟩⟩
theorem Tryd.ty5 : TyOk Tryd.prog 5 ⟨.int .u8, 1, 1, [.int .u8 0]⟩ := ⟨⟨Tryd.t5, _, by kernel_rfl, rfl, rfl, rfl, rfl, rfl, rfl⟩, ⟨_, Tryd.underlying5, rfl⟩⟩
theorem Tryd.ty6 : TyOk Tryd.prog 6 ⟨.int .u8, 1, 1, [.int .u8 0]⟩ := ⟨⟨Tryd.t6, _, by kernel_rfl, rfl, rfl, rfl, rfl, rfl, rfl⟩, ⟨_, Tryd.underlying6, rfl⟩⟩
theorem Tryd.ty7 : TyOk Tryd.prog 7 ⟨.struct [(0, 2), (1, 3), (2, 4), (3, 6)], 4, 24, [.int .i64 0, .int .i64 0, .bool false, .int .u8 0]⟩ := ⟨⟨Tryd.t7, _, by kernel_rfl, rfl, rfl, rfl, rfl, rfl, rfl⟩, ⟨_, Tryd.underlying7, ⟨_, rfl, rfl⟩⟩⟩
theorem Tryd.ty8 : TyOk Tryd.prog 8 ⟨.struct [(0, 2), (1, 3), (2, 4), (3, 6)], 4, 24, [.int .i64 0, .int .i64 0, .bool false, .int .u8 0]⟩ := ⟨⟨Tryd.t8, _, by kernel_rfl, rfl, rfl, rfl, rfl, rfl, rfl⟩, ⟨_, Tryd.underlying8, ⟨_, rfl, rfl⟩⟩⟩
theorem Tryd.ty9 : TyOk Tryd.prog 9 ⟨.string, 1, 16, [.string { data := #[] }]⟩ := ⟨⟨Tryd.t9, _, by kernel_rfl, rfl, rfl, rfl, rfl, rfl, rfl⟩, ⟨_, Tryd.underlying9, rfl⟩⟩
theorem Tryd.ty10 : TyOk Tryd.prog 10 ⟨.string, 1, 16, [.string { data := #[] }]⟩ := ⟨⟨Tryd.t10, _, by kernel_rfl, rfl, rfl, rfl, rfl, rfl, rfl⟩, ⟨_, Tryd.underlying10, rfl⟩⟩
theorem Tryd.ty11 : TyOk Tryd.prog 11 ⟨.string, 1, 16, [.string { data := #[] }]⟩ := ⟨⟨Tryd.t11, _, by kernel_rfl, rfl, rfl, rfl, rfl, rfl, rfl⟩, ⟨_, Tryd.underlying11, rfl⟩⟩
theorem Tryd.ty12 : TyOk Tryd.prog 12 ⟨.int .u64, 1, 8, [.int .u64 0]⟩ := ⟨⟨Tryd.t12, _, by kernel_rfl, rfl, rfl, rfl, rfl, rfl, rfl⟩, ⟨_, Tryd.underlying12, rfl⟩⟩
theorem Tryd.ty13 : TyOk Tryd.prog 13 ⟨.struct [(0, 9), (1, 12)], 2, 24, [.string { data := #[] }, .int .u64 0]⟩ := ⟨⟨Tryd.t13, _, by kernel_rfl, rfl, rfl, rfl, rfl, rfl, rfl⟩, ⟨_, Tryd.underlying13, ⟨_, rfl, rfl⟩⟩⟩
theorem Tryd.ty14 : TyOk Tryd.prog 14 ⟨.struct [(0, 9), (1, 12)], 2, 24, [.string { data := #[] }, .int .u64 0]⟩ := ⟨⟨Tryd.t14, _, by kernel_rfl, rfl, rfl, rfl, rfl, rfl, rfl⟩, ⟨_, Tryd.underlying14, ⟨_, rfl, rfl⟩⟩⟩
theorem Tryd.ty15 : TyOk Tryd.prog 15 ⟨.ptr 175, 1, 8, [.pointer none]⟩ := ⟨⟨Tryd.t15, _, by kernel_rfl, rfl, rfl, rfl, rfl, rfl, rfl⟩, ⟨_, Tryd.underlying15, rfl⟩⟩
theorem Tryd.ty16 : TyOk Tryd.prog 16 ⟨.ptr 178, 1, 8, [.pointer none]⟩ := ⟨⟨Tryd.t16, _, by kernel_rfl, rfl, rfl, rfl, rfl, rfl, rfl⟩, ⟨_, Tryd.underlying16, rfl⟩⟩
theorem Tryd.ty17 : TyOk Tryd.prog 17 ⟨.ptr 187, 1, 8, [.pointer none]⟩ := ⟨⟨Tryd.t17, _, by kernel_rfl, rfl, rfl, rfl, rfl, rfl, rfl⟩, ⟨_, Tryd.underlying17, rfl⟩⟩
theorem Tryd.ty18 : TyOk Tryd.prog 18 ⟨.struct [(0, 17)], 1, 8, [.pointer none]⟩ := ⟨⟨Tryd.t18, _, by kernel_rfl, rfl, rfl, rfl, rfl, rfl, rfl⟩, ⟨_, Tryd.underlying18, ⟨_, rfl, rfl⟩⟩⟩
theorem Tryd.ty19 : TyOk Tryd.prog 19 ⟨.struct [(0, 17)], 1, 8, [.pointer none]⟩ := ⟨⟨Tryd.t19, _, by kernel_rfl, rfl, rfl, rfl, rfl, rfl, rfl⟩, ⟨_, Tryd.underlying19, ⟨_, rfl, rfl⟩⟩⟩
theorem Tryd.ty20 : TyOk Tryd.prog 20 ⟨.iface, 1, 16, [.nilIface]⟩ := ⟨⟨Tryd.t20, _, by kernel_rfl, rfl, rfl, rfl, rfl, rfl, rfl⟩, ⟨_, Tryd.underlying20, ⟨_, rfl⟩⟩⟩
theorem Tryd.ty21 : TyOk Tryd.prog 21 ⟨.int .i32, 1, 4, [.int .i32 0]⟩ := ⟨⟨Tryd.t21, _, by kernel_rfl, rfl, rfl, rfl, rfl, rfl, rfl⟩, ⟨_, Tryd.underlying21, rfl⟩⟩
theorem Tryd.ty22 : TyOk Tryd.prog 22 ⟨.slice 49, 1, 24, [.slice none 0 0]⟩ := ⟨⟨Tryd.t22, _, by kernel_rfl, rfl, rfl, rfl, rfl, rfl, rfl⟩, ⟨_, Tryd.underlying22, rfl⟩⟩
theorem Tryd.ty23 : TyOk Tryd.prog 23 ⟨.func, 1, 8, [.nilFunc]⟩ := ⟨⟨Tryd.t23, _, by kernel_rfl, rfl, rfl, rfl, rfl, rfl, rfl⟩, ⟨_, Tryd.underlying23, ⟨_, _, _, rfl⟩⟩⟩
theorem Tryd.ty24 : TyOk Tryd.prog 24 ⟨.struct [(0, 3), (1, 3), (2, 3), (3, 3), (4, 3), (5, 3), (6, 3), (7, 3)], 8, 64, [.int .i64 0, .int .i64 0, .int .i64 0, .int .i64 0, .int .i64 0, .int .i64 0, .int .i64 0, .int .i64 0]⟩ := ⟨⟨Tryd.t24, _, by kernel_rfl, rfl, rfl, rfl, rfl, rfl, rfl⟩, ⟨_, Tryd.underlying24, ⟨_, rfl, rfl⟩⟩⟩
theorem Tryd.ty25 : TyOk Tryd.prog 25 ⟨.struct [(0, 3), (1, 3), (2, 3), (3, 3), (4, 3), (5, 3), (6, 3), (7, 3)], 8, 64, [.int .i64 0, .int .i64 0, .int .i64 0, .int .i64 0, .int .i64 0, .int .i64 0, .int .i64 0, .int .i64 0]⟩ := ⟨⟨Tryd.t25, _, by kernel_rfl, rfl, rfl, rfl, rfl, rfl, rfl⟩, ⟨_, Tryd.underlying25, ⟨_, rfl, rfl⟩⟩⟩
theorem Tryd.ty26 : TyOk Tryd.prog 26 ⟨.struct [(0, 3), (1, 3), (2, 3), (3, 3)], 4, 32, [.int .i64 0, .int .i64 0, .int .i64 0, .int .i64 0]⟩ := ⟨⟨Tryd.t26, _, by kernel_rfl, rfl, rfl, rfl, rfl, rfl, rfl⟩, ⟨_, Tryd.underlying26, ⟨_, rfl, rfl⟩⟩⟩
theorem Tryd.ty27 : TyOk Tryd.prog 27 ⟨.struct [(0, 3), (1, 3), (2, 3), (3, 3)], 4, 32, [.int .i64 0, .int .i64 0, .int .i64 0, .int .i64 0]⟩ := ⟨⟨Tryd.t27, _, by kernel_rfl, rfl, rfl, rfl, rfl, rfl, rfl⟩, ⟨_, Tryd.underlying27, ⟨_, rfl, rfl⟩⟩⟩
theorem Tryd.ty28 : TyOk Tryd.prog 28 ⟨.struct [(0, 3), (1, 3), (2, 3), (3, 3), (4, 3)], 5, 40, [.int .i64 0, .int .i64 0, .int .i64 0, .int .i64 0, .int .i64 0]⟩ := ⟨⟨Tryd.t28, _, by kernel_rfl, rfl, rfl, rfl, rfl, rfl, rfl⟩, ⟨_, Tryd.underlying28, ⟨_, rfl, rfl⟩⟩⟩
theorem Tryd.ty29 : TyOk Tryd.prog 29 ⟨.struct [(0, 3), (1, 3), (2, 3), (3, 3), (4, 3)], 5, 40, [.int .i64 0, .int .i64 0, .int .i64 0, .int .i64 0, .int .i64 0]⟩ := ⟨⟨Tryd.t29, _, by kernel_rfl, rfl, rfl, rfl, rfl, rfl, rfl⟩, ⟨_, Tryd.underlying29, ⟨_, rfl, rfl⟩⟩⟩
theorem Tryd.ty30 : TyOk Tryd.prog 30 ⟨.struct [(0, 3), (1, 3), (2, 3), (3, 3), (4, 3), (5, 3), (6, 3), (7, 3)], 8, 64, [.int .i64 0, .int .i64 0, .int .i64 0, .int .i64 0, .int .i64 0, .int .i64 0, .int .i64 0, .int .i64 0]⟩ := ⟨⟨Tryd.t30, _, by kernel_rfl, rfl, rfl, rfl, rfl, rfl, rfl⟩, ⟨_, Tryd.underlying30, ⟨_, rfl, rfl⟩⟩⟩
theorem Tryd.ty31 : TyOk Tryd.prog 31 ⟨.struct [(0, 3), (1, 3), (2, 3), (3, 3), (4, 3), (5, 3), (6, 3), (7, 3)], 8, 64, [.int .i64 0, .int .i64 0, .int .i64 0, .int .i64 0, .int .i64 0, .int .i64 0, .int .i64 0, .int .i64 0]⟩ := ⟨⟨Tryd.t31, _, by kernel_rfl, rfl, rfl, rfl, rfl, rfl, rfl⟩, ⟨_, Tryd.underlying31, ⟨_, rfl, rfl⟩⟩⟩
theorem Tryd.ty32 : TyOk Tryd.prog 32 ⟨.struct [(0, 3), (1, 3), (2, 3), (3, 3)], 4, 32, [.int .i64 0, .int .i64 0, .int .i64 0, .int .i64 0]⟩ := ⟨⟨Tryd.t32, _, by kernel_rfl, rfl, rfl, rfl, rfl, rfl, rfl⟩, ⟨_, Tryd.underlying32, ⟨_, rfl, rfl⟩⟩⟩
theorem Tryd.ty33 : TyOk Tryd.prog 33 ⟨.struct [(0, 3), (1, 3), (2, 3), (3, 3)], 4, 32, [.int .i64 0, .int .i64 0, .int .i64 0, .int .i64 0]⟩ := ⟨⟨Tryd.t33, _, by kernel_rfl, rfl, rfl, rfl, rfl, rfl, rfl⟩, ⟨_, Tryd.underlying33, ⟨_, rfl, rfl⟩⟩⟩
theorem Tryd.ty34 : TyOk Tryd.prog 34 ⟨.struct [(0, 3), (1, 3), (2, 3), (3, 3)], 4, 32, [.int .i64 0, .int .i64 0, .int .i64 0, .int .i64 0]⟩ := ⟨⟨Tryd.t34, _, by kernel_rfl, rfl, rfl, rfl, rfl, rfl, rfl⟩, ⟨_, Tryd.underlying34, ⟨_, rfl, rfl⟩⟩⟩
theorem Tryd.ty35 : TyOk Tryd.prog 35 ⟨.struct [(0, 3), (1, 3), (2, 3), (3, 3)], 4, 32, [.int .i64 0, .int .i64 0, .int .i64 0, .int .i64 0]⟩ := ⟨⟨Tryd.t35, _, by kernel_rfl, rfl, rfl, rfl, rfl, rfl, rfl⟩, ⟨_, Tryd.underlying35, ⟨_, rfl, rfl⟩⟩⟩
theorem Tryd.ty36 : TyOk Tryd.prog 36 ⟨.struct [(0, 3), (1, 3)], 2, 16, [.int .i64 0, .int .i64 0]⟩ := ⟨⟨Tryd.t36, _, by kernel_rfl, rfl, rfl, rfl, rfl, rfl, rfl⟩, ⟨_, Tryd.underlying36, ⟨_, rfl, rfl⟩⟩⟩
theorem Tryd.ty37 : TyOk Tryd.prog 37 ⟨.struct [(0, 3), (1, 3)], 2, 16, [.int .i64 0, .int .i64 0]⟩ := ⟨⟨Tryd.t37, _, by kernel_rfl, rfl, rfl, rfl, rfl, rfl, rfl⟩, ⟨_, Tryd.underlying37, ⟨_, rfl, rfl⟩⟩⟩
theorem Tryd.ty38 : TyOk Tryd.prog 38 ⟨.struct [(0, 3), (1, 3), (2, 3), (3, 3)], 4, 32, [.int .i64 0, .int .i64 0, .int .i64 0, .int .i64 0]⟩ := ⟨⟨Tryd.t38, _, by kernel_rfl, rfl, rfl, rfl, rfl, rfl, rfl⟩, ⟨_, Tryd.underlying38, ⟨_, rfl, rfl⟩⟩⟩
theorem Tryd.ty39 : TyOk Tryd.prog 39 ⟨.struct [(0, 3), (1, 3), (2, 3), (3, 3)], 4, 32, [.int .i64 0, .int .i64 0, .int .i64 0, .int .i64 0]⟩ := ⟨⟨Tryd.t39, _, by kernel_rfl, rfl, rfl, rfl, rfl, rfl, rfl⟩, ⟨_, Tryd.underlying39, ⟨_, rfl, rfl⟩⟩⟩
theorem Tryd.ty40 : TyOk Tryd.prog 40 ⟨.struct [(0, 3), (1, 3), (2, 3), (3, 3)], 4, 32, [.int .i64 0, .int .i64 0, .int .i64 0, .int .i64 0]⟩ := ⟨⟨Tryd.t40, _, by kernel_rfl, rfl, rfl, rfl, rfl, rfl, rfl⟩, ⟨_, Tryd.underlying40, ⟨_, rfl, rfl⟩⟩⟩
theorem Tryd.ty41 : TyOk Tryd.prog 41 ⟨.struct [(0, 3), (1, 3), (2, 3), (3, 3)], 4, 32, [.int .i64 0, .int .i64 0, .int .i64 0, .int .i64 0]⟩ := ⟨⟨Tryd.t41, _, by kernel_rfl, rfl, rfl, rfl, rfl, rfl, rfl⟩, ⟨_, Tryd.underlying41, ⟨_, rfl, rfl⟩⟩⟩
theorem Tryd.ty42 : TyOk Tryd.prog 42 ⟨.struct [(0, 3), (1, 3), (2, 3), (3, 3), (4, 3), (5, 3)], 6, 48, [.int .i64 0, .int .i64 0, .int .i64 0, .int .i64 0, .int .i64 0, .int .i64 0]⟩ := ⟨⟨Tryd.t42, _, by kernel_rfl, rfl, rfl, rfl, rfl, rfl, rfl⟩, ⟨_, Tryd.underlying42, ⟨_, rfl, rfl⟩⟩⟩
theorem Tryd.ty43 : TyOk Tryd.prog 43 ⟨.struct [(0, 3), (1, 3), (2, 3), (3, 3), (4, 3), (5, 3)], 6, 48, [.int .i64 0, .int .i64 0, .int .i64 0, .int .i64 0, .int .i64 0, .int .i64 0]⟩ := ⟨⟨Tryd.t43, _, by kernel_rfl, rfl, rfl, rfl, rfl, rfl, rfl⟩, ⟨_, Tryd.underlying43, ⟨_, rfl, rfl⟩⟩⟩
theorem Tryd.ty44 : TyOk Tryd.prog 44 ⟨.struct [(0, 3), (1, 4)], 2, 16, [.int .i64 0, .bool false]⟩ := ⟨⟨Tryd.t44, _, by kernel_rfl, rfl, rfl, rfl, rfl, rfl, rfl⟩, ⟨_, Tryd.underlying44, ⟨_, rfl, rfl⟩⟩⟩
theorem Tryd.ty45 : TyOk Tryd.prog 45 ⟨.struct [(0, 3), (1, 4)], 2, 16, [.int .i64 0, .bool false]⟩ := ⟨⟨Tryd.t45, _, by kernel_rfl, rfl, rfl, rfl, rfl, rfl, rfl⟩, ⟨_, Tryd.underlying45, ⟨_, rfl, rfl⟩⟩⟩
theorem Tryd.ty46 : TyOk Tryd.prog 46 ⟨.struct [(0, 3), (1, 3)], 2, 16, [.int .i64 0, .int .i64 0]⟩ := ⟨⟨Tryd.t46, _, by kernel_rfl, rfl, rfl, rfl, rfl, rfl, rfl⟩, ⟨_, Tryd.underlying46, ⟨_, rfl, rfl⟩⟩⟩
theorem Tryd.ty47 : TyOk Tryd.prog 47 ⟨.struct [(0, 3), (1, 3)], 2, 16, [.int .i64 0, .int .i64 0]⟩ := ⟨⟨Tryd.t47, _, by kernel_rfl, rfl, rfl, rfl, rfl, rfl, rfl⟩, ⟨_, Tryd.underlying47, ⟨_, rfl, rfl⟩⟩⟩
theorem Tryd.ty48 : TyOk Tryd.prog 48 ⟨.struct [(0, 3), (1, 3), (2, 3), (3, 3), (4, 25), (12, 27), (16, 29), (21, 31), (29, 33), (33, 35), (37, 37), (39, 39), (43, 41), (47, 43), (53, 45), (55, 47)], 57, 456, [.int .i64 0, .int .i64 0, .int .i64 0, .int .i64 0, .int .i64 0, .int .i64 0, .int .i64 0, .int .i64 0, .int .i64 0, .int .i64 0, .int .i64 0, .int .i64 0, .int .i64 0, .int .i64 0, .int .i64 0, .int .i64 0, .int .i64 0, .int .i64 0, .int .i64 0, .int .i64 0, .int .i64 0, .int .i64 0, .int .i64 0, .int .i64 0, .int .i64 0, .int .i64 0, .int .i64 0, .int .i64 0, .int .i64 0, .int .i64 0, .int .i64 0, .int .i64 0, .int .i64 0, .int .i64 0, .int .i64 0, .int .i64 0, .int .i64 0, .int .i64 0, .int .i64 0, .int .i64 0, .int .i64 0, .int .i64 0, .int .i64 0, .int .i64 0, .int .i64 0, .int .i64 0, .int .i64 0, .int .i64 0, .int .i64 0, .int .i64 0, .int .i64 0, .int .i64 0, .int .i64 0, .int .i64 0, .bool false, .int .i64 0, .int .i64 0]⟩ := ⟨⟨Tryd.t48, _, by kernel_rfl, rfl, rfl, rfl, rfl, rfl, rfl⟩, ⟨_, Tryd.underlying48, ⟨_, rfl, rfl⟩⟩⟩
theorem Tryd.ty49 : TyOk Tryd.prog 49 ⟨.struct [(0, 3), (1, 3), (2, 3), (3, 3), (4, 25), (12, 27), (16, 29), (21, 31), (29, 33), (33, 35), (37, 37), (39, 39), (43, 41), (47, 43), (53, 45), (55, 47)], 57, 456, [.int .i64 0, .int .i64 0, .int .i64 0, .int .i64 0, .int .i64 0, .int .i64 0, .int .i64 0, .int .i64 0, .int .i64 0, .int .i64 0, .int .i64 0, .int .i64 0, .int .i64 0, .int .i64 0, .int .i64 0, .int .i64 0, .int .i64 0, .int .i64 0, .int .i64 0, .int .i64 0, .int .i64 0, .int .i64 0, .int .i64 0, .int .i64 0, .int .i64 0, .int .i64 0, .int .i64 0, .int .i64 0, .int .i64 0, .int .i64 0, .int .i64 0, .int .i64 0, .int .i64 0, .int .i64 0, .int .i64 0, .int .i64 0, .int .i64 0, .int .i64 0, .int .i64 0, .int .i64 0, .int .i64 0, .int .i64 0, .int .i64 0, .int .i64 0, .int .i64 0, .int .i64 0, .int .i64 0, .int .i64 0, .int .i64 0, .int .i64 0, .int .i64 0, .int .i64 0, .int .i64 0, .int .i64 0, .bool false, .int .i64 0, .int .i64 0]⟩ := ⟨⟨Tryd.t49, _, by kernel_rfl, rfl, rfl, rfl, rfl, rfl, rfl⟩, ⟨_, Tryd.underlying49, ⟨_, rfl, rfl⟩⟩⟩
theorem Tryd.ty50 : TyOk Tryd.prog 50 ⟨.int .i64, 1, 8, [.int .i64 0]⟩ := ⟨⟨Tryd.t50, _, by kernel_rfl, rfl, rfl, rfl, rfl, rfl, rfl⟩, ⟨_, Tryd.underlying50, rfl⟩⟩
theorem Tryd.ty51 : TyOk Tryd.prog 51 ⟨.func, 1, 8, [.nilFunc]⟩ := ⟨⟨Tryd.t51, _, by kernel_rfl, rfl, rfl, rfl, rfl, rfl, rfl⟩, ⟨_, Tryd.underlying51, ⟨_, _, _, rfl⟩⟩⟩
theorem Tryd.ty52 : TyOk Tryd.prog 52 ⟨.func, 1, 8, [.nilFunc]⟩ := ⟨⟨Tryd.t52, _, by kernel_rfl, rfl, rfl, rfl, rfl, rfl, rfl⟩, ⟨_, Tryd.underlying52, ⟨_, _, _, rfl⟩⟩⟩
theorem Tryd.ty53 : TyOk Tryd.prog 53 ⟨.slice 43, 1, 24, [.slice none 0 0]⟩ := ⟨⟨Tryd.t53, _, by kernel_rfl, rfl, rfl, rfl, rfl, rfl, rfl⟩, ⟨_, Tryd.underlying53, rfl⟩⟩
theorem Tryd.ty54 : TyOk Tryd.prog 54 ⟨.func, 1, 8, [.nilFunc]⟩ := ⟨⟨Tryd.t54, _, by kernel_rfl, rfl, rfl, rfl, rfl, rfl, rfl⟩, ⟨_, Tryd.underlying54, ⟨_, _, _, rfl⟩⟩⟩
theorem Tryd.ty55 : TyOk Tryd.prog 55 ⟨.func, 1, 8, [.nilFunc]⟩ := ⟨⟨Tryd.t55, _, by kernel_rfl, rfl, rfl, rfl, rfl, rfl, rfl⟩, ⟨_, Tryd.underlying55, ⟨_, _, _, rfl⟩⟩⟩
theorem Tryd.ty56 : TyOk Tryd.prog 56 ⟨.slice 47, 1, 24, [.slice none 0 0]⟩ := ⟨⟨Tryd.t56, _, by kernel_rfl, rfl, rfl, rfl, rfl, rfl, rfl⟩, ⟨_, Tryd.underlying56, rfl⟩⟩
theorem Tryd.ty57 : TyOk Tryd.prog 57 ⟨.func, 1, 8, [.nilFunc]⟩ := ⟨⟨Tryd.t57, _, by kernel_rfl, rfl, rfl, rfl, rfl, rfl, rfl⟩, ⟨_, Tryd.underlying57, ⟨_, _, _, rfl⟩⟩⟩
theorem Tryd.ty58 : TyOk Tryd.prog 58 ⟨.func, 1, 8, [.nilFunc]⟩ := ⟨⟨Tryd.t58, _, by kernel_rfl, rfl, rfl, rfl, rfl, rfl, rfl⟩, ⟨_, Tryd.underlying58, ⟨_, _, _, rfl⟩⟩⟩
theorem Tryd.ty59 : TyOk Tryd.prog 59 ⟨.slice 39, 1, 24, [.slice none 0 0]⟩ := ⟨⟨Tryd.t59, _, by kernel_rfl, rfl, rfl, rfl, rfl, rfl, rfl⟩, ⟨_, Tryd.underlying59, rfl⟩⟩
theorem Tryd.ty60 : TyOk Tryd.prog 60 ⟨.func, 1, 8, [.nilFunc]⟩ := ⟨⟨Tryd.t60, _, by kernel_rfl, rfl, rfl, rfl, rfl, rfl, rfl⟩, ⟨_, Tryd.underlying60, ⟨_, _, _, rfl⟩⟩⟩
theorem Tryd.ty61 : TyOk Tryd.prog 61 ⟨.func, 1, 8, [.nilFunc]⟩ := ⟨⟨Tryd.t61, _, by kernel_rfl, rfl, rfl, rfl, rfl, rfl, rfl⟩, ⟨_, Tryd.underlying61, ⟨_, _, _, rfl⟩⟩⟩
theorem Tryd.ty63 : TyOk Tryd.prog 63 ⟨.func, 1, 8, [.nilFunc]⟩ := ⟨⟨Tryd.t63, _, by kernel_rfl, rfl, rfl, rfl, rfl, rfl, rfl⟩, ⟨_, Tryd.underlying63, ⟨_, _, _, rfl⟩⟩⟩
theorem Tryd.ty64 : TyOk Tryd.prog 64 ⟨.func, 1, 8, [.nilFunc]⟩ := ⟨⟨Tryd.t64, _, by kernel_rfl, rfl, rfl, rfl, rfl, rfl, rfl⟩, ⟨_, Tryd.underlying64, ⟨_, _, _, rfl⟩⟩⟩
theorem Tryd.ty65 : TyOk Tryd.prog 65 ⟨.func, 1, 8, [.nilFunc]⟩ := ⟨⟨Tryd.t65, _, by kernel_rfl, rfl, rfl, rfl, rfl, rfl, rfl⟩, ⟨_, Tryd.underlying65, ⟨_, _, _, rfl⟩⟩⟩
theorem Tryd.ty66 : TyOk Tryd.prog 66 ⟨.func, 1, 8, [.nilFunc]⟩ := ⟨⟨Tryd.t66, _, by kernel_rfl, rfl, rfl, rfl, rfl, rfl, rfl⟩, ⟨_, Tryd.underlying66, ⟨_, _, _, rfl⟩⟩⟩
theorem Tryd.ty67 : TyOk Tryd.prog 67 ⟨.func, 1, 8, [.nilFunc]⟩ := ⟨⟨Tryd.t67, _, by kernel_rfl, rfl, rfl, rfl, rfl, rfl, rfl⟩, ⟨_, Tryd.underlying67, ⟨_, _, _, rfl⟩⟩⟩
theorem Tryd.ty68 : TyOk Tryd.prog 68 ⟨.func, 1, 8, [.nilFunc]⟩ := ⟨⟨Tryd.t68, _, by kernel_rfl, rfl, rfl, rfl, rfl, rfl, rfl⟩, ⟨_, Tryd.underlying68, ⟨_, _, _, rfl⟩⟩⟩
theorem Tryd.ty69 : TyOk Tryd.prog 69 ⟨.slice 3, 1, 24, [.slice none 0 0]⟩ := ⟨⟨Tryd.t69, _, by kernel_rfl, rfl, rfl, rfl, rfl, rfl, rfl⟩, ⟨_, Tryd.underlying69, rfl⟩⟩
theorem Tryd.ty71 : TyOk Tryd.prog 71 ⟨.func, 1, 8, [.nilFunc]⟩ := ⟨⟨Tryd.t71, _, by kernel_rfl, rfl, rfl, rfl, rfl, rfl, rfl⟩, ⟨_, Tryd.underlying71, ⟨_, _, _, rfl⟩⟩⟩
theorem Tryd.ty72 : TyOk Tryd.prog 72 ⟨.slice 74, 1, 24, [.slice none 0 0]⟩ := ⟨⟨Tryd.t72, _, by kernel_rfl, rfl, rfl, rfl, rfl, rfl, rfl⟩, ⟨_, Tryd.underlying72, rfl⟩⟩
theorem Tryd.ty73 : TyOk Tryd.prog 73 ⟨.func, 1, 8, [.nilFunc]⟩ := ⟨⟨Tryd.t73, _, by kernel_rfl, rfl, rfl, rfl, rfl, rfl, rfl⟩, ⟨_, Tryd.underlying73, ⟨_, _, _, rfl⟩⟩⟩
theorem Tryd.ty74 : TyOk Tryd.prog 74 ⟨.ptr 78, 1, 8, [.pointer none]⟩ := ⟨⟨Tryd.t74, _, by kernel_rfl, rfl, rfl, rfl, rfl, rfl, rfl⟩, ⟨_, Tryd.underlying74, rfl⟩⟩
theorem Tryd.ty75 : TyOk Tryd.prog 75 ⟨.func, 1, 8, [.nilFunc]⟩ := ⟨⟨Tryd.t75, _, by kernel_rfl, rfl, rfl, rfl, rfl, rfl, rfl⟩, ⟨_, Tryd.underlying75, ⟨_, _, _, rfl⟩⟩⟩
theorem Tryd.ty76 : TyOk Tryd.prog 76 ⟨.array 3 22, 3, 72, [.slice none 0 0, .slice none 0 0, .slice none 0 0]⟩ := ⟨⟨Tryd.t76, _, by kernel_rfl, rfl, rfl, rfl, rfl, rfl, rfl⟩, ⟨_, Tryd.underlying76, rfl⟩⟩
theorem Tryd.ty77 : TyOk Tryd.prog 77 ⟨.struct [(0, 3), (1, 76), (4, 59), (5, 4)], 6, 112, [.int .i64 0, .slice none 0 0, .slice none 0 0, .slice none 0 0, .slice none 0 0, .bool false]⟩ := ⟨⟨Tryd.t77, _, by kernel_rfl, rfl, rfl, rfl, rfl, rfl, rfl⟩, ⟨_, Tryd.underlying77, ⟨_, rfl, rfl⟩⟩⟩
theorem Tryd.ty78 : TyOk Tryd.prog 78 ⟨.struct [(0, 3), (1, 76), (4, 59), (5, 4)], 6, 112, [.int .i64 0, .slice none 0 0, .slice none 0 0, .slice none 0 0, .slice none 0 0, .bool false]⟩ := ⟨⟨Tryd.t78, _, by kernel_rfl, rfl, rfl, rfl, rfl, rfl, rfl⟩, ⟨_, Tryd.underlying78, ⟨_, rfl, rfl⟩⟩⟩
theorem Tryd.ty79 : TyOk Tryd.prog 79 ⟨.func, 1, 8, [.nilFunc]⟩ := ⟨⟨Tryd.t79, _, by kernel_rfl, rfl, rfl, rfl, rfl, rfl, rfl⟩, ⟨_, Tryd.underlying79, ⟨_, _, _, rfl⟩⟩⟩
theorem Tryd.ty80 : TyOk Tryd.prog 80 ⟨.func, 1, 8, [.nilFunc]⟩ := ⟨⟨Tryd.t80, _, by kernel_rfl, rfl, rfl, rfl, rfl, rfl, rfl⟩, ⟨_, Tryd.underlying80, ⟨_, _, _, rfl⟩⟩⟩
theorem Tryd.ty81 : TyOk Tryd.prog 81 ⟨.func, 1, 8, [.nilFunc]⟩ := ⟨⟨Tryd.t81, _, by kernel_rfl, rfl, rfl, rfl, rfl, rfl, rfl⟩, ⟨_, Tryd.underlying81, ⟨_, _, _, rfl⟩⟩⟩
theorem Tryd.ty82 : TyOk Tryd.prog 82 ⟨.func, 1, 8, [.nilFunc]⟩ := ⟨⟨Tryd.t82, _, by kernel_rfl, rfl, rfl, rfl, rfl, rfl, rfl⟩, ⟨_, Tryd.underlying82, ⟨_, _, _, rfl⟩⟩⟩
theorem Tryd.ty83 : TyOk Tryd.prog 83 ⟨.slice 5, 1, 24, [.slice none 0 0]⟩ := ⟨⟨Tryd.t83, _, by kernel_rfl, rfl, rfl, rfl, rfl, rfl, rfl⟩, ⟨_, Tryd.underlying83, rfl⟩⟩
theorem Tryd.ty85 : TyOk Tryd.prog 85 ⟨.func, 1, 8, [.nilFunc]⟩ := ⟨⟨Tryd.t85, _, by kernel_rfl, rfl, rfl, rfl, rfl, rfl, rfl⟩, ⟨_, Tryd.underlying85, ⟨_, _, _, rfl⟩⟩⟩
theorem Tryd.ty86 : TyOk Tryd.prog 86 ⟨.func, 1, 8, [.nilFunc]⟩ := ⟨⟨Tryd.t86, _, by kernel_rfl, rfl, rfl, rfl, rfl, rfl, rfl⟩, ⟨_, Tryd.underlying86, ⟨_, _, _, rfl⟩⟩⟩
theorem Tryd.ty87 : TyOk Tryd.prog 87 ⟨.slice 99, 1, 24, [.slice none 0 0]⟩ := ⟨⟨Tryd.t87, _, by kernel_rfl, rfl, rfl, rfl, rfl, rfl, rfl⟩, ⟨_, Tryd.underlying87, rfl⟩⟩
theorem Tryd.ty88 : TyOk Tryd.prog 88 ⟨.struct [(0, 87), (1, 23)], 2, 32, [.slice none 0 0, .nilFunc]⟩ := ⟨⟨Tryd.t88, _, by kernel_rfl, rfl, rfl, rfl, rfl, rfl, rfl⟩, ⟨_, Tryd.underlying88, ⟨_, rfl, rfl⟩⟩⟩
theorem Tryd.ty89 : TyOk Tryd.prog 89 ⟨.struct [(0, 87), (1, 23)], 2, 32, [.slice none 0 0, .nilFunc]⟩ := ⟨⟨Tryd.t89, _, by kernel_rfl, rfl, rfl, rfl, rfl, rfl, rfl⟩, ⟨_, Tryd.underlying89, ⟨_, rfl, rfl⟩⟩⟩
theorem Tryd.ty91 : TyOk Tryd.prog 91 ⟨.func, 1, 8, [.nilFunc]⟩ := ⟨⟨Tryd.t91, _, by kernel_rfl, rfl, rfl, rfl, rfl, rfl, rfl⟩, ⟨_, Tryd.underlying91, ⟨_, _, _, rfl⟩⟩⟩
theorem Tryd.ty92 : TyOk Tryd.prog 92 ⟨.ptr 49, 1, 8, [.pointer none]⟩ := ⟨⟨Tryd.t92, _, by kernel_rfl, rfl, rfl, rfl, rfl, rfl, rfl⟩, ⟨_, Tryd.underlying92, rfl⟩⟩
theorem Tryd.ty93 : TyOk Tryd.prog 93 ⟨.ptr 3, 1, 8, [.pointer none]⟩ := ⟨⟨Tryd.t93, _, by kernel_rfl, rfl, rfl, rfl, rfl, rfl, rfl⟩, ⟨_, Tryd.underlying93, rfl⟩⟩
theorem Tryd.ty94 : TyOk Tryd.prog 94 ⟨.func, 1, 8, [.nilFunc]⟩ := ⟨⟨Tryd.t94, _, by kernel_rfl, rfl, rfl, rfl, rfl, rfl, rfl⟩, ⟨_, Tryd.underlying94, ⟨_, _, _, rfl⟩⟩⟩
theorem Tryd.ty95 : TyOk Tryd.prog 95 ⟨.func, 1, 8, [.nilFunc]⟩ := ⟨⟨Tryd.t95, _, by kernel_rfl, rfl, rfl, rfl, rfl, rfl, rfl⟩, ⟨_, Tryd.underlying95, ⟨_, _, _, rfl⟩⟩⟩
theorem Tryd.ty96 : TyOk Tryd.prog 96 ⟨.struct [(0, 3), (1, 3)], 2, 16, [.int .i64 0, .int .i64 0]⟩ := ⟨⟨Tryd.t96, _, by kernel_rfl, rfl, rfl, rfl, rfl, rfl, rfl⟩, ⟨_, Tryd.underlying96, ⟨_, rfl, rfl⟩⟩⟩
theorem Tryd.ty97 : TyOk Tryd.prog 97 ⟨.struct [(0, 3), (1, 3)], 2, 16, [.int .i64 0, .int .i64 0]⟩ := ⟨⟨Tryd.t97, _, by kernel_rfl, rfl, rfl, rfl, rfl, rfl, rfl⟩, ⟨_, Tryd.underlying97, ⟨_, rfl, rfl⟩⟩⟩
theorem Tryd.ty98 : TyOk Tryd.prog 98 ⟨.struct [(0, 93), (1, 97)], 3, 24, [.pointer none, .int .i64 0, .int .i64 0]⟩ := ⟨⟨Tryd.t98, _, by kernel_rfl, rfl, rfl, rfl, rfl, rfl, rfl⟩, ⟨_, Tryd.underlying98, ⟨_, rfl, rfl⟩⟩⟩
theorem Tryd.ty99 : TyOk Tryd.prog 99 ⟨.struct [(0, 93), (1, 97)], 3, 24, [.pointer none, .int .i64 0, .int .i64 0]⟩ := ⟨⟨Tryd.t99, _, by kernel_rfl, rfl, rfl, rfl, rfl, rfl, rfl⟩, ⟨_, Tryd.underlying99, ⟨_, rfl, rfl⟩⟩⟩
theorem Tryd.ty100 : TyOk Tryd.prog 100 ⟨.map 3 74, 1, 8, [.map none]⟩ := ⟨⟨Tryd.t100, _, by kernel_rfl, rfl, rfl, rfl, rfl, rfl, rfl⟩, ⟨_, Tryd.underlying100, rfl⟩⟩
theorem Tryd.ty101 : TyOk Tryd.prog 101 ⟨.func, 1, 8, [.nilFunc]⟩ := ⟨⟨Tryd.t101, _, by kernel_rfl, rfl, rfl, rfl, rfl, rfl, rfl⟩, ⟨_, Tryd.underlying101, ⟨_, _, _, rfl⟩⟩⟩
theorem Tryd.ty102 : TyOk Tryd.prog 102 ⟨.func, 1, 8, [.nilFunc]⟩ := ⟨⟨Tryd.t102, _, by kernel_rfl, rfl, rfl, rfl, rfl, rfl, rfl⟩, ⟨_, Tryd.underlying102, ⟨_, _, _, rfl⟩⟩⟩
theorem Tryd.ty103 : TyOk Tryd.prog 103 ⟨.func, 1, 8, [.nilFunc]⟩ := ⟨⟨Tryd.t103, _, by kernel_rfl, rfl, rfl, rfl, rfl, rfl, rfl⟩, ⟨_, Tryd.underlying103, ⟨_, _, _, rfl⟩⟩⟩
theorem Tryd.ty104 : TyOk Tryd.prog 104 ⟨.func, 1, 8, [.nilFunc]⟩ := ⟨⟨Tryd.t104, _, by kernel_rfl, rfl, rfl, rfl, rfl, rfl, rfl⟩, ⟨_, Tryd.underlying104, ⟨_, _, _, rfl⟩⟩⟩
theorem Tryd.ty105 : TyOk Tryd.prog 105 ⟨.func, 1, 8, [.nilFunc]⟩ := ⟨⟨Tryd.t105, _, by kernel_rfl, rfl, rfl, rfl, rfl, rfl, rfl⟩, ⟨_, Tryd.underlying105, ⟨_, _, _, rfl⟩⟩⟩
theorem Tryd.ty106 : TyOk Tryd.prog 106 ⟨.func, 1, 8, [.nilFunc]⟩ := ⟨⟨Tryd.t106, _, by kernel_rfl, rfl, rfl, rfl, rfl, rfl, rfl⟩, ⟨_, Tryd.underlying106, ⟨_, _, _, rfl⟩⟩⟩
theorem Tryd.ty107 : TyOk Tryd.prog 107 ⟨.func, 1, 8, [.nilFunc]⟩ := ⟨⟨Tryd.t107, _, by kernel_rfl, rfl, rfl, rfl, rfl, rfl, rfl⟩, ⟨_, Tryd.underlying107, ⟨_, _, _, rfl⟩⟩⟩
theorem Tryd.ty108 : TyOk Tryd.prog 108 ⟨.func, 1, 8, [.nilFunc]⟩ := ⟨⟨Tryd.t108, _, by kernel_rfl, rfl, rfl, rfl, rfl, rfl, rfl⟩, ⟨_, Tryd.underlying108, ⟨_, _, _, rfl⟩⟩⟩
theorem Tryd.ty109 : TyOk Tryd.prog 109 ⟨.func, 1, 8, [.nilFunc]⟩ := ⟨⟨Tryd.t109, _, by kernel_rfl, rfl, rfl, rfl, rfl, rfl, rfl⟩, ⟨_, Tryd.underlying109, ⟨_, _, _, rfl⟩⟩⟩
theorem Tryd.ty110 : TyOk Tryd.prog 110 ⟨.func, 1, 8, [.nilFunc]⟩ := ⟨⟨Tryd.t110, _, by kernel_rfl, rfl, rfl, rfl, rfl, rfl, rfl⟩, ⟨_, Tryd.underlying110, ⟨_, _, _, rfl⟩⟩⟩
theorem Tryd.ty111 : TyOk Tryd.prog 111 ⟨.slice 113, 1, 24, [.slice none 0 0]⟩ := ⟨⟨Tryd.t111, _, by kernel_rfl, rfl, rfl, rfl, rfl, rfl, rfl⟩, ⟨_, Tryd.underlying111, rfl⟩⟩
theorem Tryd.ty112 : TyOk Tryd.prog 112 ⟨.struct [(0, 3), (1, 3), (2, 9), (3, 111)], 4, 56, [.int .i64 0, .int .i64 0, .string { data := #[] }, .slice none 0 0]⟩ := ⟨⟨Tryd.t112, _, by kernel_rfl, rfl, rfl, rfl, rfl, rfl, rfl⟩, ⟨_, Tryd.underlying112, ⟨_, rfl, rfl⟩⟩⟩
theorem Tryd.ty113 : TyOk Tryd.prog 113 ⟨.struct [(0, 3), (1, 3), (2, 9), (3, 111)], 4, 56, [.int .i64 0, .int .i64 0, .string { data := #[] }, .slice none 0 0]⟩ := ⟨⟨Tryd.t113, _, by kernel_rfl, rfl, rfl, rfl, rfl, rfl, rfl⟩, ⟨_, Tryd.underlying113, ⟨_, rfl, rfl⟩⟩⟩
theorem Tryd.ty114 : TyOk Tryd.prog 114 ⟨.func, 1, 8, [.nilFunc]⟩ := ⟨⟨Tryd.t114, _, by kernel_rfl, rfl, rfl, rfl, rfl, rfl, rfl⟩, ⟨_, Tryd.underlying114, ⟨_, _, _, rfl⟩⟩⟩
theorem Tryd.ty115 : TyOk Tryd.prog 115 ⟨.ptr 25, 1, 8, [.pointer none]⟩ := ⟨⟨Tryd.t115, _, by kernel_rfl, rfl, rfl, rfl, rfl, rfl, rfl⟩, ⟨_, Tryd.underlying115, rfl⟩⟩
theorem Tryd.ty116 : TyOk Tryd.prog 116 ⟨.ptr 27, 1, 8, [.pointer none]⟩ := ⟨⟨Tryd.t116, _, by kernel_rfl, rfl, rfl, rfl, rfl, rfl, rfl⟩, ⟨_, Tryd.underlying116, rfl⟩⟩
theorem Tryd.ty117 : TyOk Tryd.prog 117 ⟨.ptr 29, 1, 8, [.pointer none]⟩ := ⟨⟨Tryd.t117, _, by kernel_rfl, rfl, rfl, rfl, rfl, rfl, rfl⟩, ⟨_, Tryd.underlying117, rfl⟩⟩
theorem Tryd.ty118 : TyOk Tryd.prog 118 ⟨.ptr 31, 1, 8, [.pointer none]⟩ := ⟨⟨Tryd.t118, _, by kernel_rfl, rfl, rfl, rfl, rfl, rfl, rfl⟩, ⟨_, Tryd.underlying118, rfl⟩⟩
theorem Tryd.ty119 : TyOk Tryd.prog 119 ⟨.ptr 33, 1, 8, [.pointer none]⟩ := ⟨⟨Tryd.t119, _, by kernel_rfl, rfl, rfl, rfl, rfl, rfl, rfl⟩, ⟨_, Tryd.underlying119, rfl⟩⟩
theorem Tryd.ty120 : TyOk Tryd.prog 120 ⟨.ptr 35, 1, 8, [.pointer none]⟩ := ⟨⟨Tryd.t120, _, by kernel_rfl, rfl, rfl, rfl, rfl, rfl, rfl⟩, ⟨_, Tryd.underlying120, rfl⟩⟩
theorem Tryd.ty121 : TyOk Tryd.prog 121 ⟨.ptr 37, 1, 8, [.pointer none]⟩ := ⟨⟨Tryd.t121, _, by kernel_rfl, rfl, rfl, rfl, rfl, rfl, rfl⟩, ⟨_, Tryd.underlying121, rfl⟩⟩
theorem Tryd.ty122 : TyOk Tryd.prog 122 ⟨.ptr 39, 1, 8, [.pointer none]⟩ := ⟨⟨Tryd.t122, _, by kernel_rfl, rfl, rfl, rfl, rfl, rfl, rfl⟩, ⟨_, Tryd.underlying122, rfl⟩⟩
theorem Tryd.ty123 : TyOk Tryd.prog 123 ⟨.ptr 41, 1, 8, [.pointer none]⟩ := ⟨⟨Tryd.t123, _, by kernel_rfl, rfl, rfl, rfl, rfl, rfl, rfl⟩, ⟨_, Tryd.underlying123, rfl⟩⟩
theorem Tryd.ty124 : TyOk Tryd.prog 124 ⟨.ptr 43, 1, 8, [.pointer none]⟩ := ⟨⟨Tryd.t124, _, by kernel_rfl, rfl, rfl, rfl, rfl, rfl, rfl⟩, ⟨_, Tryd.underlying124, rfl⟩⟩
theorem Tryd.ty125 : TyOk Tryd.prog 125 ⟨.func, 1, 8, [.nilFunc]⟩ := ⟨⟨Tryd.t125, _, by kernel_rfl, rfl, rfl, rfl, rfl, rfl, rfl⟩, ⟨_, Tryd.underlying125, ⟨_, _, _, rfl⟩⟩⟩
theorem Tryd.ty126 : TyOk Tryd.prog 126 ⟨.func, 1, 8, [.nilFunc]⟩ := ⟨⟨Tryd.t126, _, by kernel_rfl, rfl, rfl, rfl, rfl, rfl, rfl⟩, ⟨_, Tryd.underlying126, ⟨_, _, _, rfl⟩⟩⟩
theorem Tryd.ty127 : TyOk Tryd.prog 127 ⟨.func, 1, 8, [.nilFunc]⟩ := ⟨⟨Tryd.t127, _, by kernel_rfl, rfl, rfl, rfl, rfl, rfl, rfl⟩, ⟨_, Tryd.underlying127, ⟨_, _, _, rfl⟩⟩⟩
theorem Tryd.ty128 : TyOk Tryd.prog 128 ⟨.func, 1, 8, [.nilFunc]⟩ := ⟨⟨Tryd.t128, _, by kernel_rfl, rfl, rfl, rfl, rfl, rfl, rfl⟩, ⟨_, Tryd.underlying128, ⟨_, _, _, rfl⟩⟩⟩
theorem Tryd.ty129 : TyOk Tryd.prog 129 ⟨.func, 1, 8, [.nilFunc]⟩ := ⟨⟨Tryd.t129, _, by kernel_rfl, rfl, rfl, rfl, rfl, rfl, rfl⟩, ⟨_, Tryd.underlying129, ⟨_, _, _, rfl⟩⟩⟩
theorem Tryd.ty130 : TyOk Tryd.prog 130 ⟨.func, 1, 8, [.nilFunc]⟩ := ⟨⟨Tryd.t130, _, by kernel_rfl, rfl, rfl, rfl, rfl, rfl, rfl⟩, ⟨_, Tryd.underlying130, ⟨_, _, _, rfl⟩⟩⟩
theorem Tryd.ty131 : TyOk Tryd.prog 131 ⟨.int .u64, 1, 8, [.int .u64 0]⟩ := ⟨⟨Tryd.t131, _, by kernel_rfl, rfl, rfl, rfl, rfl, rfl, rfl⟩, ⟨_, Tryd.underlying131, rfl⟩⟩
theorem Tryd.ty132 : TyOk Tryd.prog 132 ⟨.func, 1, 8, [.nilFunc]⟩ := ⟨⟨Tryd.t132, _, by kernel_rfl, rfl, rfl, rfl, rfl, rfl, rfl⟩, ⟨_, Tryd.underlying132, ⟨_, _, _, rfl⟩⟩⟩
theorem Tryd.ty133 : TyOk Tryd.prog 133 ⟨.func, 1, 8, [.nilFunc]⟩ := ⟨⟨Tryd.t133, _, by kernel_rfl, rfl, rfl, rfl, rfl, rfl, rfl⟩, ⟨_, Tryd.underlying133, ⟨_, _, _, rfl⟩⟩⟩
theorem Tryd.ty134 : TyOk Tryd.prog 134 ⟨.struct [(0, 133)], 1, 8, [.nilFunc]⟩ := ⟨⟨Tryd.t134, _, by kernel_rfl, rfl, rfl, rfl, rfl, rfl, rfl⟩, ⟨_, Tryd.underlying134, ⟨_, rfl, rfl⟩⟩⟩
theorem Tryd.ty135 : TyOk Tryd.prog 135 ⟨.struct [(0, 133)], 1, 8, [.nilFunc]⟩ := ⟨⟨Tryd.t135, _, by kernel_rfl, rfl, rfl, rfl, rfl, rfl, rfl⟩, ⟨_, Tryd.underlying135, ⟨_, rfl, rfl⟩⟩⟩
theorem Tryd.ty136 : TyOk Tryd.prog 136 ⟨.ptr 153, 1, 8, [.pointer none]⟩ := ⟨⟨Tryd.t136, _, by kernel_rfl, rfl, rfl, rfl, rfl, rfl, rfl⟩, ⟨_, Tryd.underlying136, rfl⟩⟩
theorem Tryd.ty137 : TyOk Tryd.prog 137 ⟨.func, 1, 8, [.nilFunc]⟩ := ⟨⟨Tryd.t137, _, by kernel_rfl, rfl, rfl, rfl, rfl, rfl, rfl⟩, ⟨_, Tryd.underlying137, ⟨_, _, _, rfl⟩⟩⟩
theorem Tryd.ty138 : TyOk Tryd.prog 138 ⟨.func, 1, 8, [.nilFunc]⟩ := ⟨⟨Tryd.t138, _, by kernel_rfl, rfl, rfl, rfl, rfl, rfl, rfl⟩, ⟨_, Tryd.underlying138, ⟨_, _, _, rfl⟩⟩⟩
theorem Tryd.ty139 : TyOk Tryd.prog 139 ⟨.func, 1, 8, [.nilFunc]⟩ := ⟨⟨Tryd.t139, _, by kernel_rfl, rfl, rfl, rfl, rfl, rfl, rfl⟩, ⟨_, Tryd.underlying139, ⟨_, _, _, rfl⟩⟩⟩
theorem Tryd.ty140 : TyOk Tryd.prog 140 ⟨.int .i64, 1, 8, [.int .i64 0]⟩ := ⟨⟨Tryd.t140, _, by kernel_rfl, rfl, rfl, rfl, rfl, rfl, rfl⟩, ⟨_, Tryd.underlying140, rfl⟩⟩
theorem Tryd.ty142 : TyOk Tryd.prog 142 ⟨.func, 1, 8, [.nilFunc]⟩ := ⟨⟨Tryd.t142, _, by kernel_rfl, rfl, rfl, rfl, rfl, rfl, rfl⟩, ⟨_, Tryd.underlying142, ⟨_, _, _, rfl⟩⟩⟩
theorem Tryd.ty143 : TyOk Tryd.prog 143 ⟨.func, 1, 8, [.nilFunc]⟩ := ⟨⟨Tryd.t143, _, by kernel_rfl, rfl, rfl, rfl, rfl, rfl, rfl⟩, ⟨_, Tryd.underlying143, ⟨_, _, _, rfl⟩⟩⟩
theorem Tryd.ty144 : TyOk Tryd.prog 144 ⟨.func, 1, 8, [.nilFunc]⟩ := ⟨⟨Tryd.t144, _, by kernel_rfl, rfl, rfl, rfl, rfl, rfl, rfl⟩, ⟨_, Tryd.underlying144, ⟨_, _, _, rfl⟩⟩⟩
theorem Tryd.ty146 : TyOk Tryd.prog 146 ⟨.func, 1, 8, [.nilFunc]⟩ := ⟨⟨Tryd.t146, _, by kernel_rfl, rfl, rfl, rfl, rfl, rfl, rfl⟩, ⟨_, Tryd.underlying146, ⟨_, _, _, rfl⟩⟩⟩
theorem Tryd.ty147 : TyOk Tryd.prog 147 ⟨.func, 1, 8, [.nilFunc]⟩ := ⟨⟨Tryd.t147, _, by kernel_rfl, rfl, rfl, rfl, rfl, rfl, rfl⟩, ⟨_, Tryd.underlying147, ⟨_, _, _, rfl⟩⟩⟩
theorem Tryd.ty148 : TyOk Tryd.prog 148 ⟨.int .u32, 1, 4, [.int .u32 0]⟩ := ⟨⟨Tryd.t148, _, by kernel_rfl, rfl, rfl, rfl, rfl, rfl, rfl⟩, ⟨_, Tryd.underlying148, rfl⟩⟩
theorem Tryd.ty149 : TyOk Tryd.prog 149 ⟨.func, 1, 8, [.nilFunc]⟩ := ⟨⟨Tryd.t149, _, by kernel_rfl, rfl, rfl, rfl, rfl, rfl, rfl⟩, ⟨_, Tryd.underlying149, ⟨_, _, _, rfl⟩⟩⟩
theorem Tryd.ty150 : TyOk Tryd.prog 150 ⟨.int .u64, 1, 8, [.int .u64 0]⟩ := ⟨⟨Tryd.t150, _, by kernel_rfl, rfl, rfl, rfl, rfl, rfl, rfl⟩, ⟨_, Tryd.underlying150, rfl⟩⟩
theorem Tryd.ty151 : TyOk Tryd.prog 151 ⟨.func, 1, 8, [.nilFunc]⟩ := ⟨⟨Tryd.t151, _, by kernel_rfl, rfl, rfl, rfl, rfl, rfl, rfl⟩, ⟨_, Tryd.underlying151, ⟨_, _, _, rfl⟩⟩⟩
theorem Tryd.ty152 : TyOk Tryd.prog 152 ⟨.array 4 135, 4, 32, [.nilFunc, .nilFunc, .nilFunc, .nilFunc]⟩ := ⟨⟨Tryd.t152, _, by kernel_rfl, rfl, rfl, rfl, rfl, rfl, rfl⟩, ⟨_, Tryd.underlying152, rfl⟩⟩
theorem Tryd.ty153 : TyOk Tryd.prog 153 ⟨.array 4 135, 4, 32, [.nilFunc, .nilFunc, .nilFunc, .nilFunc]⟩ := ⟨⟨Tryd.t153, _, by kernel_rfl, rfl, rfl, rfl, rfl, rfl, rfl⟩, ⟨_, Tryd.underlying153, rfl⟩⟩
theorem Tryd.ty154 : TyOk Tryd.prog 154 ⟨.func, 1, 8, [.nilFunc]⟩ := ⟨⟨Tryd.t154, _, by kernel_rfl, rfl, rfl, rfl, rfl, rfl, rfl⟩, ⟨_, Tryd.underlying154, ⟨_, _, _, rfl⟩⟩⟩
theorem Tryd.ty155 : TyOk Tryd.prog 155 ⟨.func, 1, 8, [.nilFunc]⟩ := ⟨⟨Tryd.t155, _, by kernel_rfl, rfl, rfl, rfl, rfl, rfl, rfl⟩, ⟨_, Tryd.underlying155, ⟨_, _, _, rfl⟩⟩⟩
theorem Tryd.ty156 : TyOk Tryd.prog 156 ⟨.func, 1, 8, [.nilFunc]⟩ := ⟨⟨Tryd.t156, _, by kernel_rfl, rfl, rfl, rfl, rfl, rfl, rfl⟩, ⟨_, Tryd.underlying156, ⟨_, _, _, rfl⟩⟩⟩
theorem Tryd.ty157 : TyOk Tryd.prog 157 ⟨.func, 1, 8, [.nilFunc]⟩ := ⟨⟨Tryd.t157, _, by kernel_rfl, rfl, rfl, rfl, rfl, rfl, rfl⟩, ⟨_, Tryd.underlying157, ⟨_, _, _, rfl⟩⟩⟩
theorem Tryd.ty158 : TyOk Tryd.prog 158 ⟨.func, 1, 8, [.nilFunc]⟩ := ⟨⟨Tryd.t158, _, by kernel_rfl, rfl, rfl, rfl, rfl, rfl, rfl⟩, ⟨_, Tryd.underlying158, ⟨_, _, _, rfl⟩⟩⟩
theorem Tryd.ty159 : TyOk Tryd.prog 159 ⟨.func, 1, 8, [.nilFunc]⟩ := ⟨⟨Tryd.t159, _, by kernel_rfl, rfl, rfl, rfl, rfl, rfl, rfl⟩, ⟨_, Tryd.underlying159, ⟨_, _, _, rfl⟩⟩⟩
theorem Tryd.ty160 : TyOk Tryd.prog 160 ⟨.func, 1, 8, [.nilFunc]⟩ := ⟨⟨Tryd.t160, _, by kernel_rfl, rfl, rfl, rfl, rfl, rfl, rfl⟩, ⟨_, Tryd.underlying160, ⟨_, _, _, rfl⟩⟩⟩
theorem Tryd.ty161 : TyOk Tryd.prog 161 ⟨.int .u64, 1, 8, [.int .u64 0]⟩ := ⟨⟨Tryd.t161, _, by kernel_rfl, rfl, rfl, rfl, rfl, rfl, rfl⟩, ⟨_, Tryd.underlying161, rfl⟩⟩
theorem Tryd.ty162 : TyOk Tryd.prog 162 ⟨.func, 1, 8, [.nilFunc]⟩ := ⟨⟨Tryd.t162, _, by kernel_rfl, rfl, rfl, rfl, rfl, rfl, rfl⟩, ⟨_, Tryd.underlying162, ⟨_, _, _, rfl⟩⟩⟩
theorem Tryd.ty163 : TyOk Tryd.prog 163 ⟨.func, 1, 8, [.nilFunc]⟩ := ⟨⟨Tryd.t163, _, by kernel_rfl, rfl, rfl, rfl, rfl, rfl, rfl⟩, ⟨_, Tryd.underlying163, ⟨_, _, _, rfl⟩⟩⟩
theorem Tryd.ty164 : TyOk Tryd.prog 164 ⟨.func, 1, 8, [.nilFunc]⟩ := ⟨⟨Tryd.t164, _, by kernel_rfl, rfl, rfl, rfl, rfl, rfl, rfl⟩, ⟨_, Tryd.underlying164, ⟨_, _, _, rfl⟩⟩⟩
theorem Tryd.ty165 : TyOk Tryd.prog 165 ⟨.func, 1, 8, [.nilFunc]⟩ := ⟨⟨Tryd.t165, _, by kernel_rfl, rfl, rfl, rfl, rfl, rfl, rfl⟩, ⟨_, Tryd.underlying165, ⟨_, _, _, rfl⟩⟩⟩
theorem Tryd.ty166 : TyOk Tryd.prog 166 ⟨.array 4 4, 4, 4, [.bool false, .bool false, .bool false, .bool false]⟩ := ⟨⟨Tryd.t166, _, by kernel_rfl, rfl, rfl, rfl, rfl, rfl, rfl⟩, ⟨_, Tryd.underlying166, rfl⟩⟩
theorem Tryd.ty167 : TyOk Tryd.prog 167 ⟨.func, 1, 8, [.nilFunc]⟩ := ⟨⟨Tryd.t167, _, by kernel_rfl, rfl, rfl, rfl, rfl, rfl, rfl⟩, ⟨_, Tryd.underlying167, ⟨_, _, _, rfl⟩⟩⟩
theorem Tryd.ty168 : TyOk Tryd.prog 168 ⟨.func, 1, 8, [.nilFunc]⟩ := ⟨⟨Tryd.t168, _, by kernel_rfl, rfl, rfl, rfl, rfl, rfl, rfl⟩, ⟨_, Tryd.underlying168, ⟨_, _, _, rfl⟩⟩⟩
theorem Tryd.ty169 : TyOk Tryd.prog 169 ⟨.ptr 161, 1, 8, [.pointer none]⟩ := ⟨⟨Tryd.t169, _, by kernel_rfl, rfl, rfl, rfl, rfl, rfl, rfl⟩, ⟨_, Tryd.underlying169, rfl⟩⟩
theorem Tryd.ty171 : TyOk Tryd.prog 171 ⟨.func, 1, 8, [.nilFunc]⟩ := ⟨⟨Tryd.t171, _, by kernel_rfl, rfl, rfl, rfl, rfl, rfl, rfl⟩, ⟨_, Tryd.underlying171, ⟨_, _, _, rfl⟩⟩⟩
theorem Tryd.ty172 : TyOk Tryd.prog 172 ⟨.func, 1, 8, [.nilFunc]⟩ := ⟨⟨Tryd.t172, _, by kernel_rfl, rfl, rfl, rfl, rfl, rfl, rfl⟩, ⟨_, Tryd.underlying172, ⟨_, _, _, rfl⟩⟩⟩
theorem Tryd.ty173 : TyOk Tryd.prog 173 ⟨.func, 1, 8, [.nilFunc]⟩ := ⟨⟨Tryd.t173, _, by kernel_rfl, rfl, rfl, rfl, rfl, rfl, rfl⟩, ⟨_, Tryd.underlying173, ⟨_, _, _, rfl⟩⟩⟩
theorem Tryd.ty174 : TyOk Tryd.prog 174 ⟨.struct [(0, 17), (1, 17), (2, 17), (3, 9)], 4, 40, [.pointer none, .pointer none, .pointer none, .string { data := #[] }]⟩ := ⟨⟨Tryd.t174, _, by kernel_rfl, rfl, rfl, rfl, rfl, rfl, rfl⟩, ⟨_, Tryd.underlying174, ⟨_, rfl, rfl⟩⟩⟩
theorem Tryd.ty175 : TyOk Tryd.prog 175 ⟨.struct [(0, 17), (1, 17), (2, 17), (3, 9)], 4, 40, [.pointer none, .pointer none, .pointer none, .string { data := #[] }]⟩ := ⟨⟨Tryd.t175, _, by kernel_rfl, rfl, rfl, rfl, rfl, rfl, rfl⟩, ⟨_, Tryd.underlying175, ⟨_, rfl, rfl⟩⟩⟩
theorem Tryd.ty176 : TyOk Tryd.prog 176 ⟨.array 0 16, 0, 0, []⟩ := ⟨⟨Tryd.t176, _, by kernel_rfl, rfl, rfl, rfl, rfl, rfl, rfl⟩, ⟨_, Tryd.underlying176, rfl⟩⟩
theorem Tryd.ty177 : TyOk Tryd.prog 177 ⟨.struct [(0, 176)], 0, 0, []⟩ := ⟨⟨Tryd.t177, _, by kernel_rfl, rfl, rfl, rfl, rfl, rfl, rfl⟩, ⟨_, Tryd.underlying177, ⟨_, rfl, rfl⟩⟩⟩
theorem Tryd.ty178 : TyOk Tryd.prog 178 ⟨.struct [(0, 176)], 0, 0, []⟩ := ⟨⟨Tryd.t178, _, by kernel_rfl, rfl, rfl, rfl, rfl, rfl, rfl⟩, ⟨_, Tryd.underlying178, ⟨_, rfl, rfl⟩⟩⟩
theorem Tryd.ty179 : TyOk Tryd.prog 179 ⟨.func, 1, 8, [.nilFunc]⟩ := ⟨⟨Tryd.t179, _, by kernel_rfl, rfl, rfl, rfl, rfl, rfl, rfl⟩, ⟨_, Tryd.underlying179, ⟨_, _, _, rfl⟩⟩⟩
theorem Tryd.ty180 : TyOk Tryd.prog 180 ⟨.int .u8, 1, 1, [.int .u8 0]⟩ := ⟨⟨Tryd.t180, _, by kernel_rfl, rfl, rfl, rfl, rfl, rfl, rfl⟩, ⟨_, Tryd.underlying180, rfl⟩⟩
theorem Tryd.ty181 : TyOk Tryd.prog 181 ⟨.int .u8, 1, 1, [.int .u8 0]⟩ := ⟨⟨Tryd.t181, _, by kernel_rfl, rfl, rfl, rfl, rfl, rfl, rfl⟩, ⟨_, Tryd.underlying181, rfl⟩⟩
theorem Tryd.ty182 : TyOk Tryd.prog 182 ⟨.func, 1, 8, [.nilFunc]⟩ := ⟨⟨Tryd.t182, _, by kernel_rfl, rfl, rfl, rfl, rfl, rfl, rfl⟩, ⟨_, Tryd.underlying182, ⟨_, _, _, rfl⟩⟩⟩
theorem Tryd.ty183 : TyOk Tryd.prog 183 ⟨.ptr 5, 1, 8, [.pointer none]⟩ := ⟨⟨Tryd.t183, _, by kernel_rfl, rfl, rfl, rfl, rfl, rfl, rfl⟩, ⟨_, Tryd.underlying183, rfl⟩⟩
theorem Tryd.ty184 : TyOk Tryd.prog 184 ⟨.int .i32, 1, 4, [.int .i32 0]⟩ := ⟨⟨Tryd.t184, _, by kernel_rfl, rfl, rfl, rfl, rfl, rfl, rfl⟩, ⟨_, Tryd.underlying184, rfl⟩⟩
theorem Tryd.ty185 : TyOk Tryd.prog 185 ⟨.int .i32, 1, 4, [.int .i32 0]⟩ := ⟨⟨Tryd.t185, _, by kernel_rfl, rfl, rfl, rfl, rfl, rfl, rfl⟩, ⟨_, Tryd.underlying185, rfl⟩⟩
theorem Tryd.ty186 : TyOk Tryd.prog 186 ⟨.struct [(0, 12), (1, 12), (2, 148), (3, 180), (4, 5), (5, 5), (6, 181), (7, 182), (8, 183), (9, 184), (10, 185)], 11, 48, [.int .u64 0, .int .u64 0, .int .u32 0, .int .u8 0, .int .u8 0, .int .u8 0, .int .u8 0, .nilFunc, .pointer none, .int .i32 0, .int .i32 0]⟩ := ⟨⟨Tryd.t186, _, by kernel_rfl, rfl, rfl, rfl, rfl, rfl, rfl⟩, ⟨_, Tryd.underlying186, ⟨_, rfl, rfl⟩⟩⟩
theorem Tryd.ty187 : TyOk Tryd.prog 187 ⟨.struct [(0, 12), (1, 12), (2, 148), (3, 180), (4, 5), (5, 5), (6, 181), (7, 182), (8, 183), (9, 184), (10, 185)], 11, 48, [.int .u64 0, .int .u64 0, .int .u32 0, .int .u8 0, .int .u8 0, .int .u8 0, .int .u8 0, .nilFunc, .pointer none, .int .i32 0, .int .i32 0]⟩ := ⟨⟨Tryd.t187, _, by kernel_rfl, rfl, rfl, rfl, rfl, rfl, rfl⟩, ⟨_, Tryd.underlying187, ⟨_, rfl, rfl⟩⟩⟩

theorem Tryd.tab : TabOk Tryd.prog Tryd.τ := by
  intro T e h
  have hL : AllOk Tryd.prog 0 Tryd.tL := by
    unfold Tryd.tL
    refine ⟨Tryd.ty1, ?_⟩
    refine ⟨Tryd.ty2, ?_⟩
    refine ⟨Tryd.ty3, ?_⟩
    refine ⟨Tryd.ty4, ?_⟩
    refine ⟨Tryd.ty5, ?_⟩
    refine ⟨Tryd.ty6, ?_⟩
    refine ⟨Tryd.ty7, ?_⟩
    refine ⟨Tryd.ty8, ?_⟩
    refine ⟨Tryd.ty9, ?_⟩
    refine ⟨Tryd.ty10, ?_⟩
    refine ⟨Tryd.ty11, ?_⟩
    refine ⟨Tryd.ty12, ?_⟩
    refine ⟨Tryd.ty13, ?_⟩
    refine ⟨Tryd.ty14, ?_⟩
    refine ⟨Tryd.ty15, ?_⟩
    refine ⟨Tryd.ty16, ?_⟩
    refine ⟨Tryd.ty17, ?_⟩
    refine ⟨Tryd.ty18, ?_⟩
    refine ⟨Tryd.ty19, ?_⟩
    refine ⟨Tryd.ty20, ?_⟩
    refine ⟨Tryd.ty21, ?_⟩
    refine ⟨Tryd.ty22, ?_⟩
    refine ⟨Tryd.ty23, ?_⟩
    refine ⟨Tryd.ty24, ?_⟩
    refine ⟨Tryd.ty25, ?_⟩
    refine ⟨Tryd.ty26, ?_⟩
    refine ⟨Tryd.ty27, ?_⟩
    refine ⟨Tryd.ty28, ?_⟩
    refine ⟨Tryd.ty29, ?_⟩
    refine ⟨Tryd.ty30, ?_⟩
    refine ⟨Tryd.ty31, ?_⟩
    refine ⟨Tryd.ty32, ?_⟩
    refine ⟨Tryd.ty33, ?_⟩
    refine ⟨Tryd.ty34, ?_⟩
    refine ⟨Tryd.ty35, ?_⟩
    refine ⟨Tryd.ty36, ?_⟩
    refine ⟨Tryd.ty37, ?_⟩
    refine ⟨Tryd.ty38, ?_⟩
    refine ⟨Tryd.ty39, ?_⟩
    refine ⟨Tryd.ty40, ?_⟩
    refine ⟨Tryd.ty41, ?_⟩
    refine ⟨Tryd.ty42, ?_⟩
    refine ⟨Tryd.ty43, ?_⟩
    refine ⟨Tryd.ty44, ?_⟩
    refine ⟨Tryd.ty45, ?_⟩
    refine ⟨Tryd.ty46, ?_⟩
    refine ⟨Tryd.ty47, ?_⟩
    refine ⟨Tryd.ty48, ?_⟩
    refine ⟨Tryd.ty49, ?_⟩
    refine ⟨Tryd.ty50, ?_⟩
    refine ⟨Tryd.ty51, ?_⟩
    refine ⟨Tryd.ty52, ?_⟩
    refine ⟨Tryd.ty53, ?_⟩
    refine ⟨Tryd.ty54, ?_⟩
    refine ⟨Tryd.ty55, ?_⟩
    refine ⟨Tryd.ty56, ?_⟩
    refine ⟨Tryd.ty57, ?_⟩
    refine ⟨Tryd.ty58, ?_⟩
    refine ⟨Tryd.ty59, ?_⟩
    refine ⟨Tryd.ty60, ?_⟩
    refine ⟨Tryd.ty61, ?_⟩
    refine ⟨Tryd.ty63, ?_⟩
    refine ⟨Tryd.ty64, ?_⟩
    refine ⟨Tryd.ty65, ?_⟩
    refine ⟨Tryd.ty66, ?_⟩
    refine ⟨Tryd.ty67, ?_⟩
    refine ⟨Tryd.ty68, ?_⟩
    refine ⟨Tryd.ty69, ?_⟩
    refine ⟨Tryd.ty71, ?_⟩
    refine ⟨Tryd.ty72, ?_⟩
    refine ⟨Tryd.ty73, ?_⟩
    refine ⟨Tryd.ty74, ?_⟩
    refine ⟨Tryd.ty75, ?_⟩
    refine ⟨Tryd.ty76, ?_⟩
    refine ⟨Tryd.ty77, ?_⟩
    refine ⟨Tryd.ty78, ?_⟩
    refine ⟨Tryd.ty79, ?_⟩
    refine ⟨Tryd.ty80, ?_⟩
    refine ⟨Tryd.ty81, ?_⟩
    refine ⟨Tryd.ty82, ?_⟩
    refine ⟨Tryd.ty83, ?_⟩
    refine ⟨Tryd.ty85, ?_⟩
    refine ⟨Tryd.ty86, ?_⟩
    refine ⟨Tryd.ty87, ?_⟩
    refine ⟨Tryd.ty88, ?_⟩
    refine ⟨Tryd.ty89, ?_⟩
    refine ⟨Tryd.ty91, ?_⟩
    refine ⟨Tryd.ty92, ?_⟩
    refine ⟨Tryd.ty93, ?_⟩
    refine ⟨Tryd.ty94, ?_⟩
    refine ⟨Tryd.ty95, ?_⟩
    refine ⟨Tryd.ty96, ?_⟩
    refine ⟨Tryd.ty97, ?_⟩
    refine ⟨Tryd.ty98, ?_⟩
    refine ⟨Tryd.ty99, ?_⟩
    refine ⟨Tryd.ty100, ?_⟩
    refine ⟨Tryd.ty101, ?_⟩
    refine ⟨Tryd.ty102, ?_⟩
    refine ⟨Tryd.ty103, ?_⟩
    refine ⟨Tryd.ty104, ?_⟩
    refine ⟨Tryd.ty105, ?_⟩
    refine ⟨Tryd.ty106, ?_⟩
    refine ⟨Tryd.ty107, ?_⟩
    refine ⟨Tryd.ty108, ?_⟩
    refine ⟨Tryd.ty109, ?_⟩
    refine ⟨Tryd.ty110, ?_⟩
    refine ⟨Tryd.ty111, ?_⟩
    refine ⟨Tryd.ty112, ?_⟩
    refine ⟨Tryd.ty113, ?_⟩
    refine ⟨Tryd.ty114, ?_⟩
    refine ⟨Tryd.ty115, ?_⟩
    refine ⟨Tryd.ty116, ?_⟩
    refine ⟨Tryd.ty117, ?_⟩
    refine ⟨Tryd.ty118, ?_⟩
    refine ⟨Tryd.ty119, ?_⟩
    refine ⟨Tryd.ty120, ?_⟩
    refine ⟨Tryd.ty121, ?_⟩
    refine ⟨Tryd.ty122, ?_⟩
    refine ⟨Tryd.ty123, ?_⟩
    refine ⟨Tryd.ty124, ?_⟩
    refine ⟨Tryd.ty125, ?_⟩
    refine ⟨Tryd.ty126, ?_⟩
    refine ⟨Tryd.ty127, ?_⟩
    refine ⟨Tryd.ty128, ?_⟩
    refine ⟨Tryd.ty129, ?_⟩
    refine ⟨Tryd.ty130, ?_⟩
    refine ⟨Tryd.ty131, ?_⟩
    refine ⟨Tryd.ty132, ?_⟩
    refine ⟨Tryd.ty133, ?_⟩
    refine ⟨Tryd.ty134, ?_⟩
    refine ⟨Tryd.ty135, ?_⟩
    refine ⟨Tryd.ty136, ?_⟩
    refine ⟨Tryd.ty137, ?_⟩
    refine ⟨Tryd.ty138, ?_⟩
    refine ⟨Tryd.ty139, ?_⟩
    refine ⟨Tryd.ty140, ?_⟩
    refine ⟨Tryd.ty142, ?_⟩
    refine ⟨Tryd.ty143, ?_⟩
    refine ⟨Tryd.ty144, ?_⟩
    refine ⟨Tryd.ty146, ?_⟩
    refine ⟨Tryd.ty147, ?_⟩
    refine ⟨Tryd.ty148, ?_⟩
    refine ⟨Tryd.ty149, ?_⟩
    refine ⟨Tryd.ty150, ?_⟩
    refine ⟨Tryd.ty151, ?_⟩
    refine ⟨Tryd.ty152, ?_⟩
    refine ⟨Tryd.ty153, ?_⟩
    refine ⟨Tryd.ty154, ?_⟩
    refine ⟨Tryd.ty155, ?_⟩
    refine ⟨Tryd.ty156, ?_⟩
    refine ⟨Tryd.ty157, ?_⟩
    refine ⟨Tryd.ty158, ?_⟩
    refine ⟨Tryd.ty159, ?_⟩
    refine ⟨Tryd.ty160, ?_⟩
    refine ⟨Tryd.ty161, ?_⟩
    refine ⟨Tryd.ty162, ?_⟩
    refine ⟨Tryd.ty163, ?_⟩
    refine ⟨Tryd.ty164, ?_⟩
    refine ⟨Tryd.ty165, ?_⟩
    refine ⟨Tryd.ty166, ?_⟩
    refine ⟨Tryd.ty167, ?_⟩
    refine ⟨Tryd.ty168, ?_⟩
    refine ⟨Tryd.ty169, ?_⟩
    refine ⟨Tryd.ty171, ?_⟩
    refine ⟨Tryd.ty172, ?_⟩
    refine ⟨Tryd.ty173, ?_⟩
    refine ⟨Tryd.ty174, ?_⟩
    refine ⟨Tryd.ty175, ?_⟩
    refine ⟨Tryd.ty176, ?_⟩
    refine ⟨Tryd.ty177, ?_⟩
    refine ⟨Tryd.ty178, ?_⟩
    refine ⟨Tryd.ty179, ?_⟩
    refine ⟨Tryd.ty180, ?_⟩
    refine ⟨Tryd.ty181, ?_⟩
    refine ⟨Tryd.ty182, ?_⟩
    refine ⟨Tryd.ty183, ?_⟩
    refine ⟨Tryd.ty184, ?_⟩
    refine ⟨Tryd.ty185, ?_⟩
    refine ⟨Tryd.ty186, ?_⟩
    refine ⟨Tryd.ty187, ?_⟩
    exact trivial
  unfold Tryd.τ at h
  have h2 : Tryd.tL[T]? = some (some e) := by
    cases ht : Tryd.tL[T]? with
    | none => rw [ht] at h; cases h
    | some x => rw [ht] at h; exact congrArg some h
  have := AllOk.at _ 0 T e hL h2
  rwa [Nat.zero_add] at this

theorem Tryd.mixed : Tryd.prog.follows .mixedOrders = true := by kernel_rfl

theorem Tryd.body3 : Body Tryd.prog 3 := ⟨Tryd.f3, _, Tryd.func3, rfl, by kernel_rfl⟩
theorem Tryd.body4 : Body Tryd.prog 4 := ⟨Tryd.f4, _, Tryd.func4, rfl, by kernel_rfl⟩
theorem Tryd.body5 : Body Tryd.prog 5 := ⟨Tryd.f5, _, Tryd.func5, rfl, by kernel_rfl⟩
theorem Tryd.body6 : Body Tryd.prog 6 := ⟨Tryd.f6, _, Tryd.func6, rfl, by kernel_rfl⟩
theorem Tryd.body7 : Body Tryd.prog 7 := ⟨Tryd.f7, _, Tryd.func7, rfl, by kernel_rfl⟩
theorem Tryd.body8 : Body Tryd.prog 8 := ⟨Tryd.f8, _, Tryd.func8, rfl, by kernel_rfl⟩
theorem Tryd.body9 : Body Tryd.prog 9 := ⟨Tryd.f9, _, Tryd.func9, rfl, by kernel_rfl⟩
theorem Tryd.body10 : Body Tryd.prog 10 := ⟨Tryd.f10, _, Tryd.func10, rfl, by kernel_rfl⟩
theorem Tryd.body11 : Body Tryd.prog 11 := ⟨Tryd.f11, _, Tryd.func11, rfl, by kernel_rfl⟩
theorem Tryd.body12 : Body Tryd.prog 12 := ⟨Tryd.f12, _, Tryd.func12, rfl, by kernel_rfl⟩
theorem Tryd.body13 : Body Tryd.prog 13 := ⟨Tryd.f13, _, Tryd.func13, rfl, by kernel_rfl⟩
theorem Tryd.body14 : Body Tryd.prog 14 := ⟨Tryd.f14, _, Tryd.func14, rfl, by kernel_rfl⟩
theorem Tryd.body15 : Body Tryd.prog 15 := ⟨Tryd.f15, _, Tryd.func15, rfl, by kernel_rfl⟩
theorem Tryd.body16 : Body Tryd.prog 16 := ⟨Tryd.f16, _, Tryd.func16, rfl, by kernel_rfl⟩
theorem Tryd.body17 : Body Tryd.prog 17 := ⟨Tryd.f17, _, Tryd.func17, rfl, by kernel_rfl⟩
theorem Tryd.body18 : Body Tryd.prog 18 := ⟨Tryd.f18, _, Tryd.func18, rfl, by kernel_rfl⟩
theorem Tryd.body19 : Body Tryd.prog 19 := ⟨Tryd.f19, _, Tryd.func19, rfl, by kernel_rfl⟩
theorem Tryd.body20 : Body Tryd.prog 20 := ⟨Tryd.f20, _, Tryd.func20, rfl, by kernel_rfl⟩
theorem Tryd.body21 : Body Tryd.prog 21 := ⟨Tryd.f21, _, Tryd.func21, rfl, by kernel_rfl⟩
theorem Tryd.body22 : Body Tryd.prog 22 := ⟨Tryd.f22, _, Tryd.func22, rfl, by kernel_rfl⟩
theorem Tryd.body23 : Body Tryd.prog 23 := ⟨Tryd.f23, _, Tryd.func23, rfl, by kernel_rfl⟩
theorem Tryd.body24 : Body Tryd.prog 24 := ⟨Tryd.f24, _, Tryd.func24, rfl, by kernel_rfl⟩
theorem Tryd.body25 : Body Tryd.prog 25 := ⟨Tryd.f25, _, Tryd.func25, rfl, by kernel_rfl⟩
theorem Tryd.body26 : Body Tryd.prog 26 := ⟨Tryd.f26, _, Tryd.func26, rfl, by kernel_rfl⟩
theorem Tryd.body27 : Body Tryd.prog 27 := ⟨Tryd.f27, _, Tryd.func27, rfl, by kernel_rfl⟩
theorem Tryd.body28 : Body Tryd.prog 28 := ⟨Tryd.f28, _, Tryd.func28, rfl, by kernel_rfl⟩
theorem Tryd.body29 : Body Tryd.prog 29 := ⟨Tryd.f29, _, Tryd.func29, rfl, by kernel_rfl⟩
theorem Tryd.body30 : Body Tryd.prog 30 := ⟨Tryd.f30, _, Tryd.func30, rfl, by kernel_rfl⟩
theorem Tryd.body31 : Body Tryd.prog 31 := ⟨Tryd.f31, _, Tryd.func31, rfl, by kernel_rfl⟩
theorem Tryd.body32 : Body Tryd.prog 32 := ⟨Tryd.f32, _, Tryd.func32, rfl, by kernel_rfl⟩
theorem Tryd.body33 : Body Tryd.prog 33 := ⟨Tryd.f33, _, Tryd.func33, rfl, by kernel_rfl⟩
theorem Tryd.body34 : Body Tryd.prog 34 := ⟨Tryd.f34, _, Tryd.func34, rfl, by kernel_rfl⟩
theorem Tryd.body35 : Body Tryd.prog 35 := ⟨Tryd.f35, _, Tryd.func35, rfl, by kernel_rfl⟩
theorem Tryd.body36 : Body Tryd.prog 36 := ⟨Tryd.f36, _, Tryd.func36, rfl, by kernel_rfl⟩
theorem Tryd.body37 : Body Tryd.prog 37 := ⟨Tryd.f37, _, Tryd.func37, rfl, by kernel_rfl⟩
theorem Tryd.body38 : Body Tryd.prog 38 := ⟨Tryd.f38, _, Tryd.func38, rfl, by kernel_rfl⟩
theorem Tryd.body39 : Body Tryd.prog 39 := ⟨Tryd.f39, _, Tryd.func39, rfl, by kernel_rfl⟩
theorem Tryd.body40 : Body Tryd.prog 40 := ⟨Tryd.f40, _, Tryd.func40, rfl, by kernel_rfl⟩
theorem Tryd.body41 : Body Tryd.prog 41 := ⟨Tryd.f41, _, Tryd.func41, rfl, by kernel_rfl⟩
theorem Tryd.body42 : Body Tryd.prog 42 := ⟨Tryd.f42, _, Tryd.func42, rfl, by kernel_rfl⟩
theorem Tryd.body43 : Body Tryd.prog 43 := ⟨Tryd.f43, _, Tryd.func43, rfl, by kernel_rfl⟩
theorem Tryd.body45 : Body Tryd.prog 45 := ⟨Tryd.f45, _, Tryd.func45, rfl, by kernel_rfl⟩
theorem Tryd.body46 : Body Tryd.prog 46 := ⟨Tryd.f46, _, Tryd.func46, rfl, by kernel_rfl⟩
theorem Tryd.body47 : Body Tryd.prog 47 := ⟨Tryd.f47, _, Tryd.func47, rfl, by kernel_rfl⟩
theorem Tryd.body48 : Body Tryd.prog 48 := ⟨Tryd.f48, _, Tryd.func48, rfl, by kernel_rfl⟩
theorem Tryd.body49 : Body Tryd.prog 49 := ⟨Tryd.f49, _, Tryd.func49, rfl, by kernel_rfl⟩
theorem Tryd.body50 : Body Tryd.prog 50 := ⟨Tryd.f50, _, Tryd.func50, rfl, by kernel_rfl⟩
theorem Tryd.body51 : Body Tryd.prog 51 := ⟨Tryd.f51, _, Tryd.func51, rfl, by kernel_rfl⟩
theorem Tryd.body52 : Body Tryd.prog 52 := ⟨Tryd.f52, _, Tryd.func52, rfl, by kernel_rfl⟩
theorem Tryd.body53 : Body Tryd.prog 53 := ⟨Tryd.f53, _, Tryd.func53, rfl, by kernel_rfl⟩
theorem Tryd.body54 : Body Tryd.prog 54 := ⟨Tryd.f54, _, Tryd.func54, rfl, by kernel_rfl⟩
theorem Tryd.body55 : Body Tryd.prog 55 := ⟨Tryd.f55, _, Tryd.func55, rfl, by kernel_rfl⟩
theorem Tryd.body56 : Body Tryd.prog 56 := ⟨Tryd.f56, _, Tryd.func56, rfl, by kernel_rfl⟩
theorem Tryd.body57 : Body Tryd.prog 57 := ⟨Tryd.f57, _, Tryd.func57, rfl, by kernel_rfl⟩
theorem Tryd.body58 : Body Tryd.prog 58 := ⟨Tryd.f58, _, Tryd.func58, rfl, by kernel_rfl⟩
theorem Tryd.body59 : Body Tryd.prog 59 := ⟨Tryd.f59, _, Tryd.func59, rfl, by kernel_rfl⟩
theorem Tryd.body60 : Body Tryd.prog 60 := ⟨Tryd.f60, _, Tryd.func60, rfl, by kernel_rfl⟩
theorem Tryd.body61 : Body Tryd.prog 61 := ⟨Tryd.f61, _, Tryd.func61, rfl, by kernel_rfl⟩
theorem Tryd.body62 : Body Tryd.prog 62 := ⟨Tryd.f62, _, Tryd.func62, rfl, by kernel_rfl⟩
theorem Tryd.body63 : Body Tryd.prog 63 := ⟨Tryd.f63, _, Tryd.func63, rfl, by kernel_rfl⟩
theorem Tryd.body64 : Body Tryd.prog 64 := ⟨Tryd.f64, _, Tryd.func64, rfl, by kernel_rfl⟩
theorem Tryd.body65 : Body Tryd.prog 65 := ⟨Tryd.f65, _, Tryd.func65, rfl, by kernel_rfl⟩
theorem Tryd.body66 : Body Tryd.prog 66 := ⟨Tryd.f66, _, Tryd.func66, rfl, by kernel_rfl⟩
theorem Tryd.body67 : Body Tryd.prog 67 := ⟨Tryd.f67, _, Tryd.func67, rfl, by kernel_rfl⟩
theorem Tryd.body68 : Body Tryd.prog 68 := ⟨Tryd.f68, _, Tryd.func68, rfl, by kernel_rfl⟩
theorem Tryd.body69 : Body Tryd.prog 69 := ⟨Tryd.f69, _, Tryd.func69, rfl, by kernel_rfl⟩
theorem Tryd.body70 : Body Tryd.prog 70 := ⟨Tryd.f70, _, Tryd.func70, rfl, by kernel_rfl⟩
theorem Tryd.body71 : Body Tryd.prog 71 := ⟨Tryd.f71, _, Tryd.func71, rfl, by kernel_rfl⟩
theorem Tryd.body72 : Body Tryd.prog 72 := ⟨Tryd.f72, _, Tryd.func72, rfl, by kernel_rfl⟩
theorem Tryd.body73 : Body Tryd.prog 73 := ⟨Tryd.f73, _, Tryd.func73, rfl, by kernel_rfl⟩
theorem Tryd.body74 : Body Tryd.prog 74 := ⟨Tryd.f74, _, Tryd.func74, rfl, by kernel_rfl⟩
theorem Tryd.body75 : Body Tryd.prog 75 := ⟨Tryd.f75, _, Tryd.func75, rfl, by kernel_rfl⟩
theorem Tryd.body76 : Body Tryd.prog 76 := ⟨Tryd.f76, _, Tryd.func76, rfl, by kernel_rfl⟩
theorem Tryd.body77 : Body Tryd.prog 77 := ⟨Tryd.f77, _, Tryd.func77, rfl, by kernel_rfl⟩
theorem Tryd.body78 : Body Tryd.prog 78 := ⟨Tryd.f78, _, Tryd.func78, rfl, by kernel_rfl⟩
theorem Tryd.body79 : Body Tryd.prog 79 := ⟨Tryd.f79, _, Tryd.func79, rfl, by kernel_rfl⟩
theorem Tryd.body80 : Body Tryd.prog 80 := ⟨Tryd.f80, _, Tryd.func80, rfl, by kernel_rfl⟩
theorem Tryd.body81 : Body Tryd.prog 81 := ⟨Tryd.f81, _, Tryd.func81, rfl, by kernel_rfl⟩
theorem Tryd.body82 : Body Tryd.prog 82 := ⟨Tryd.f82, _, Tryd.func82, rfl, by kernel_rfl⟩
theorem Tryd.body83 : Body Tryd.prog 83 := ⟨Tryd.f83, _, Tryd.func83, rfl, by kernel_rfl⟩
theorem Tryd.body84 : Body Tryd.prog 84 := ⟨Tryd.f84, _, Tryd.func84, rfl, by kernel_rfl⟩
theorem Tryd.body86 : Body Tryd.prog 86 := ⟨Tryd.f86, _, Tryd.func86, rfl, by kernel_rfl⟩
theorem Tryd.body87 : Body Tryd.prog 87 := ⟨Tryd.f87, _, Tryd.func87, rfl, by kernel_rfl⟩
theorem Tryd.body88 : Body Tryd.prog 88 := ⟨Tryd.f88, _, Tryd.func88, rfl, by kernel_rfl⟩
theorem Tryd.body89 : Body Tryd.prog 89 := ⟨Tryd.f89, _, Tryd.func89, rfl, by kernel_rfl⟩
theorem Tryd.body90 : Body Tryd.prog 90 := ⟨Tryd.f90, _, Tryd.func90, rfl, by kernel_rfl⟩
theorem Tryd.body91 : Body Tryd.prog 91 := ⟨Tryd.f91, _, Tryd.func91, rfl, by kernel_rfl⟩
theorem Tryd.body92 : Body Tryd.prog 92 := ⟨Tryd.f92, _, Tryd.func92, rfl, by kernel_rfl⟩
instance : Glob := ⟨fun
  | 1 => some [.v (.int .i64 (-1099511627776)), .v (.int .i64 1099511627776)]
  | 5 => some [.v (.int .i64 0), .v (.int .i64 1099511627776)]
  | 0 => some [.v (.int .i64 1), .v (.int .i64 9999)]
  | 3 => some [.v (.int .i64 0), .v (.int .i64 39)]
  | 4 => some [.v (.int .i64 0), .v (.int .i64 255)]
  | 2 => some [.v (.int .i64 0), .v (.int .i64 1048576)]
  | 6 => some [.v (.int .i64 0), .v (.int .i64 255)]
  | 7 => some [.v (.int .i64 1), .v (.int .i64 1048576)]
  | 9 => some [.v (.int .i64 0), .v (.int .i64 31)]
  | 10 => some [.v (.int .i64 1), .v (.int .i64 1048576)]
  | 8 => some [.v (.int .i64 0), .v (.int .i64 1)]
  | _ => none⟩
@[simp] theorem Tryd.laid1 : (Glob.laid 1 : Option (List D)) = some [.v (.int .i64 (-1099511627776)), .v (.int .i64 1099511627776)] := rfl
@[simp] theorem Tryd.laid5 : (Glob.laid 5 : Option (List D)) = some [.v (.int .i64 0), .v (.int .i64 1099511627776)] := rfl
@[simp] theorem Tryd.laid0 : (Glob.laid 0 : Option (List D)) = some [.v (.int .i64 1), .v (.int .i64 9999)] := rfl
@[simp] theorem Tryd.laid3 : (Glob.laid 3 : Option (List D)) = some [.v (.int .i64 0), .v (.int .i64 39)] := rfl
@[simp] theorem Tryd.laid4 : (Glob.laid 4 : Option (List D)) = some [.v (.int .i64 0), .v (.int .i64 255)] := rfl
@[simp] theorem Tryd.laid2 : (Glob.laid 2 : Option (List D)) = some [.v (.int .i64 0), .v (.int .i64 1048576)] := rfl
@[simp] theorem Tryd.laid6 : (Glob.laid 6 : Option (List D)) = some [.v (.int .i64 0), .v (.int .i64 255)] := rfl
@[simp] theorem Tryd.laid7 : (Glob.laid 7 : Option (List D)) = some [.v (.int .i64 1), .v (.int .i64 1048576)] := rfl
@[simp] theorem Tryd.laid9 : (Glob.laid 9 : Option (List D)) = some [.v (.int .i64 0), .v (.int .i64 31)] := rfl
@[simp] theorem Tryd.laid10 : (Glob.laid 10 : Option (List D)) = some [.v (.int .i64 1), .v (.int .i64 1048576)] := rfl
@[simp] theorem Tryd.laid8 : (Glob.laid 8 : Option (List D)) = some [.v (.int .i64 0), .v (.int .i64 1)] := rfl

end Go.Proofs.YtjjaabidbeoomaaDoor
