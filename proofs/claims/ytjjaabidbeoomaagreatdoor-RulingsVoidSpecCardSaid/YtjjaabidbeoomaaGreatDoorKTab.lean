/-
  The types of the seat, for the engine. Printed by seatgen.py.
-/
import Derived.Test.YtjjaabidbeoomaaGreatDoorRows
import Derived.Test.YtjjaabidbeoomaaGreatDoorK3
set_option linter.unusedVariables false
set_option linter.unusedSimpArgs false
set_option linter.unusedSectionVars false
namespace Go.Proofs.YtjjaabidbeoomaaGreatDoor
open Go.Xe

def Tryz.tL : List (Option TE) := [
  none,
  some ⟨.func, 1, 8, [.nilFunc]⟩,
  some ⟨.int .i64, 1, 8, [.int .i64 0]⟩,
  some ⟨.int .i64, 1, 8, [.int .i64 0]⟩,
  some ⟨.bool, 1, 1, [.bool false]⟩,
  some ⟨.int .u8, 1, 1, [.int .u8 0]⟩,
  some ⟨.int .u8, 1, 1, [.int .u8 0]⟩,
  some ⟨.struct [(0, 2), (1, 3), (2, 4), (3, 6)], 4, 24, [.int .i64 0, .int .i64 0, .bool false, .int .u8 0]⟩,
  some ⟨.struct [(0, 2), (1, 3), (2, 4), (3, 6)], 4, 24, [.int .i64 0, .int .i64 0, .bool false, .int .u8 0]⟩,
  some ⟨.string, 1, 16, [.string { data := #[] }]⟩,
  some ⟨.string, 1, 16, [.string { data := #[] }]⟩,
  some ⟨.string, 1, 16, [.string { data := #[] }]⟩,
  some ⟨.int .u64, 1, 8, [.int .u64 0]⟩,
  some ⟨.struct [(0, 9), (1, 12)], 2, 24, [.string { data := #[] }, .int .u64 0]⟩,
  some ⟨.struct [(0, 9), (1, 12)], 2, 24, [.string { data := #[] }, .int .u64 0]⟩,
  some ⟨.ptr 189, 1, 8, [.pointer none]⟩,
  some ⟨.ptr 192, 1, 8, [.pointer none]⟩,
  some ⟨.ptr 201, 1, 8, [.pointer none]⟩,
  some ⟨.struct [(0, 17)], 1, 8, [.pointer none]⟩,
  some ⟨.struct [(0, 17)], 1, 8, [.pointer none]⟩,
  some ⟨.iface, 1, 16, [.nilIface]⟩,
  some ⟨.int .i32, 1, 4, [.int .i32 0]⟩,
  some ⟨.slice 62, 1, 24, [.slice none 0 0]⟩,
  some ⟨.func, 1, 8, [.nilFunc]⟩,
  some ⟨.struct [(0, 3), (1, 3), (2, 3), (3, 3), (4, 3), (5, 3)], 6, 48, [.int .i64 0, .int .i64 0, .int .i64 0, .int .i64 0, .int .i64 0, .int .i64 0]⟩,
  some ⟨.struct [(0, 3), (1, 3), (2, 3), (3, 3), (4, 3), (5, 3)], 6, 48, [.int .i64 0, .int .i64 0, .int .i64 0, .int .i64 0, .int .i64 0, .int .i64 0]⟩,
  none,
  some ⟨.func, 1, 8, [.nilFunc]⟩,
  some ⟨.func, 1, 8, [.nilFunc]⟩,
  some ⟨.slice 25, 1, 24, [.slice none 0 0]⟩,
  some ⟨.func, 1, 8, [.nilFunc]⟩,
  some ⟨.func, 1, 8, [.nilFunc]⟩,
  some ⟨.func, 1, 8, [.nilFunc]⟩,
  some ⟨.slice 60, 1, 24, [.slice none 0 0]⟩,
  some ⟨.func, 1, 8, [.nilFunc]⟩,
  some ⟨.func, 1, 8, [.nilFunc]⟩,
  some ⟨.slice 54, 1, 24, [.slice none 0 0]⟩,
  some ⟨.func, 1, 8, [.nilFunc]⟩,
  some ⟨.func, 1, 8, [.nilFunc]⟩,
  some ⟨.struct [(0, 3), (1, 3), (2, 3), (3, 3), (4, 3), (5, 3), (6, 3), (7, 3)], 8, 64, [.int .i64 0, .int .i64 0, .int .i64 0, .int .i64 0, .int .i64 0, .int .i64 0, .int .i64 0, .int .i64 0]⟩,
  some ⟨.struct [(0, 3), (1, 3), (2, 3), (3, 3), (4, 3), (5, 3), (6, 3), (7, 3)], 8, 64, [.int .i64 0, .int .i64 0, .int .i64 0, .int .i64 0, .int .i64 0, .int .i64 0, .int .i64 0, .int .i64 0]⟩,
  some ⟨.struct [(0, 3), (1, 3), (2, 3), (3, 3)], 4, 32, [.int .i64 0, .int .i64 0, .int .i64 0, .int .i64 0]⟩,
  some ⟨.struct [(0, 3), (1, 3), (2, 3), (3, 3)], 4, 32, [.int .i64 0, .int .i64 0, .int .i64 0, .int .i64 0]⟩,
  some ⟨.struct [(0, 3), (1, 3), (2, 3), (3, 3), (4, 3)], 5, 40, [.int .i64 0, .int .i64 0, .int .i64 0, .int .i64 0, .int .i64 0]⟩,
  some ⟨.struct [(0, 3), (1, 3), (2, 3), (3, 3), (4, 3)], 5, 40, [.int .i64 0, .int .i64 0, .int .i64 0, .int .i64 0, .int .i64 0]⟩,
  some ⟨.struct [(0, 3), (1, 3), (2, 3), (3, 3), (4, 3), (5, 3), (6, 3), (7, 3)], 8, 64, [.int .i64 0, .int .i64 0, .int .i64 0, .int .i64 0, .int .i64 0, .int .i64 0, .int .i64 0, .int .i64 0]⟩,
  some ⟨.struct [(0, 3), (1, 3), (2, 3), (3, 3), (4, 3), (5, 3), (6, 3), (7, 3)], 8, 64, [.int .i64 0, .int .i64 0, .int .i64 0, .int .i64 0, .int .i64 0, .int .i64 0, .int .i64 0, .int .i64 0]⟩,
  some ⟨.struct [(0, 3), (1, 3), (2, 3), (3, 3)], 4, 32, [.int .i64 0, .int .i64 0, .int .i64 0, .int .i64 0]⟩,
  some ⟨.struct [(0, 3), (1, 3), (2, 3), (3, 3)], 4, 32, [.int .i64 0, .int .i64 0, .int .i64 0, .int .i64 0]⟩,
  some ⟨.struct [(0, 3), (1, 3), (2, 3), (3, 3)], 4, 32, [.int .i64 0, .int .i64 0, .int .i64 0, .int .i64 0]⟩,
  some ⟨.struct [(0, 3), (1, 3), (2, 3), (3, 3)], 4, 32, [.int .i64 0, .int .i64 0, .int .i64 0, .int .i64 0]⟩,
  some ⟨.struct [(0, 3), (1, 3)], 2, 16, [.int .i64 0, .int .i64 0]⟩,
  some ⟨.struct [(0, 3), (1, 3)], 2, 16, [.int .i64 0, .int .i64 0]⟩,
  some ⟨.struct [(0, 3), (1, 3), (2, 3), (3, 3)], 4, 32, [.int .i64 0, .int .i64 0, .int .i64 0, .int .i64 0]⟩,
  some ⟨.struct [(0, 3), (1, 3), (2, 3), (3, 3)], 4, 32, [.int .i64 0, .int .i64 0, .int .i64 0, .int .i64 0]⟩,
  some ⟨.struct [(0, 3), (1, 3), (2, 3), (3, 3)], 4, 32, [.int .i64 0, .int .i64 0, .int .i64 0, .int .i64 0]⟩,
  some ⟨.struct [(0, 3), (1, 3), (2, 3), (3, 3)], 4, 32, [.int .i64 0, .int .i64 0, .int .i64 0, .int .i64 0]⟩,
  some ⟨.struct [(0, 3), (1, 4)], 2, 16, [.int .i64 0, .bool false]⟩,
  some ⟨.struct [(0, 3), (1, 4)], 2, 16, [.int .i64 0, .bool false]⟩,
  some ⟨.struct [(0, 3), (1, 3)], 2, 16, [.int .i64 0, .int .i64 0]⟩,
  some ⟨.struct [(0, 3), (1, 3)], 2, 16, [.int .i64 0, .int .i64 0]⟩,
  some ⟨.struct [(0, 3), (1, 3), (2, 3), (3, 3), (4, 40), (12, 42), (16, 44), (21, 46), (29, 48), (33, 50), (37, 52), (39, 54), (43, 56), (47, 25), (53, 58), (55, 60)], 57, 456, [.int .i64 0, .int .i64 0, .int .i64 0, .int .i64 0, .int .i64 0, .int .i64 0, .int .i64 0, .int .i64 0, .int .i64 0, .int .i64 0, .int .i64 0, .int .i64 0, .int .i64 0, .int .i64 0, .int .i64 0, .int .i64 0, .int .i64 0, .int .i64 0, .int .i64 0, .int .i64 0, .int .i64 0, .int .i64 0, .int .i64 0, .int .i64 0, .int .i64 0, .int .i64 0, .int .i64 0, .int .i64 0, .int .i64 0, .int .i64 0, .int .i64 0, .int .i64 0, .int .i64 0, .int .i64 0, .int .i64 0, .int .i64 0, .int .i64 0, .int .i64 0, .int .i64 0, .int .i64 0, .int .i64 0, .int .i64 0, .int .i64 0, .int .i64 0, .int .i64 0, .int .i64 0, .int .i64 0, .int .i64 0, .int .i64 0, .int .i64 0, .int .i64 0, .int .i64 0, .int .i64 0, .int .i64 0, .bool false, .int .i64 0, .int .i64 0]⟩,
  some ⟨.struct [(0, 3), (1, 3), (2, 3), (3, 3), (4, 40), (12, 42), (16, 44), (21, 46), (29, 48), (33, 50), (37, 52), (39, 54), (43, 56), (47, 25), (53, 58), (55, 60)], 57, 456, [.int .i64 0, .int .i64 0, .int .i64 0, .int .i64 0, .int .i64 0, .int .i64 0, .int .i64 0, .int .i64 0, .int .i64 0, .int .i64 0, .int .i64 0, .int .i64 0, .int .i64 0, .int .i64 0, .int .i64 0, .int .i64 0, .int .i64 0, .int .i64 0, .int .i64 0, .int .i64 0, .int .i64 0, .int .i64 0, .int .i64 0, .int .i64 0, .int .i64 0, .int .i64 0, .int .i64 0, .int .i64 0, .int .i64 0, .int .i64 0, .int .i64 0, .int .i64 0, .int .i64 0, .int .i64 0, .int .i64 0, .int .i64 0, .int .i64 0, .int .i64 0, .int .i64 0, .int .i64 0, .int .i64 0, .int .i64 0, .int .i64 0, .int .i64 0, .int .i64 0, .int .i64 0, .int .i64 0, .int .i64 0, .int .i64 0, .int .i64 0, .int .i64 0, .int .i64 0, .int .i64 0, .int .i64 0, .bool false, .int .i64 0, .int .i64 0]⟩,
  some ⟨.func, 1, 8, [.nilFunc]⟩,
  some ⟨.ptr 75, 1, 8, [.pointer none]⟩,
  some ⟨.func, 1, 8, [.nilFunc]⟩,
  some ⟨.func, 1, 8, [.nilFunc]⟩,
  some ⟨.func, 1, 8, [.nilFunc]⟩,
  some ⟨.func, 1, 8, [.nilFunc]⟩,
  some ⟨.slice 64, 1, 24, [.slice none 0 0]⟩,
  some ⟨.func, 1, 8, [.nilFunc]⟩,
  some ⟨.slice 3, 1, 24, [.slice none 0 0]⟩,
  some ⟨.func, 1, 8, [.nilFunc]⟩,
  some ⟨.array 3 22, 3, 72, [.slice none 0 0, .slice none 0 0, .slice none 0 0]⟩,
  some ⟨.struct [(0, 3), (1, 73), (4, 36), (5, 4)], 6, 112, [.int .i64 0, .slice none 0 0, .slice none 0 0, .slice none 0 0, .slice none 0 0, .bool false]⟩,
  some ⟨.struct [(0, 3), (1, 73), (4, 36), (5, 4)], 6, 112, [.int .i64 0, .slice none 0 0, .slice none 0 0, .slice none 0 0, .slice none 0 0, .bool false]⟩,
  some ⟨.func, 1, 8, [.nilFunc]⟩,
  some ⟨.func, 1, 8, [.nilFunc]⟩,
  some ⟨.func, 1, 8, [.nilFunc]⟩,
  some ⟨.func, 1, 8, [.nilFunc]⟩,
  some ⟨.func, 1, 8, [.nilFunc]⟩,
  some ⟨.int .i64, 1, 8, [.int .i64 0]⟩,
  some ⟨.func, 1, 8, [.nilFunc]⟩,
  some ⟨.map 3 64, 1, 8, [.map none]⟩,
  some ⟨.func, 1, 8, [.nilFunc]⟩,
  some ⟨.func, 1, 8, [.nilFunc]⟩,
  some ⟨.func, 1, 8, [.nilFunc]⟩,
  some ⟨.func, 1, 8, [.nilFunc]⟩,
  some ⟨.func, 1, 8, [.nilFunc]⟩,
  some ⟨.func, 1, 8, [.nilFunc]⟩,
  some ⟨.func, 1, 8, [.nilFunc]⟩,
  some ⟨.func, 1, 8, [.nilFunc]⟩,
  some ⟨.slice 5, 1, 24, [.slice none 0 0]⟩,
  none,
  some ⟨.func, 1, 8, [.nilFunc]⟩,
  some ⟨.func, 1, 8, [.nilFunc]⟩,
  some ⟨.func, 1, 8, [.nilFunc]⟩,
  some ⟨.func, 1, 8, [.nilFunc]⟩,
  some ⟨.func, 1, 8, [.nilFunc]⟩,
  some ⟨.func, 1, 8, [.nilFunc]⟩,
  none,
  some ⟨.func, 1, 8, [.nilFunc]⟩,
  some ⟨.func, 1, 8, [.nilFunc]⟩,
  some ⟨.func, 1, 8, [.nilFunc]⟩,
  some ⟨.func, 1, 8, [.nilFunc]⟩,
  some ⟨.func, 1, 8, [.nilFunc]⟩,
  some ⟨.func, 1, 8, [.nilFunc]⟩,
  some ⟨.func, 1, 8, [.nilFunc]⟩,
  some ⟨.int .u64, 1, 8, [.int .u64 0]⟩,
  some ⟨.slice 111, 1, 24, [.slice none 0 0]⟩,
  some ⟨.struct [(0, 3), (1, 3), (2, 9), (3, 109)], 4, 56, [.int .i64 0, .int .i64 0, .string { data := #[] }, .slice none 0 0]⟩,
  some ⟨.struct [(0, 3), (1, 3), (2, 9), (3, 109)], 4, 56, [.int .i64 0, .int .i64 0, .string { data := #[] }, .slice none 0 0]⟩,
  some ⟨.func, 1, 8, [.nilFunc]⟩,
  some ⟨.func, 1, 8, [.nilFunc]⟩,
  some ⟨.func, 1, 8, [.nilFunc]⟩,
  some ⟨.func, 1, 8, [.nilFunc]⟩,
  some ⟨.func, 1, 8, [.nilFunc]⟩,
  some ⟨.func, 1, 8, [.nilFunc]⟩,
  some ⟨.slice 130, 1, 24, [.slice none 0 0]⟩,
  some ⟨.struct [(0, 118), (1, 23)], 2, 32, [.slice none 0 0, .nilFunc]⟩,
  some ⟨.struct [(0, 118), (1, 23)], 2, 32, [.slice none 0 0, .nilFunc]⟩,
  none,
  some ⟨.func, 1, 8, [.nilFunc]⟩,
  some ⟨.ptr 62, 1, 8, [.pointer none]⟩,
  some ⟨.ptr 3, 1, 8, [.pointer none]⟩,
  some ⟨.func, 1, 8, [.nilFunc]⟩,
  some ⟨.func, 1, 8, [.nilFunc]⟩,
  some ⟨.struct [(0, 3), (1, 3)], 2, 16, [.int .i64 0, .int .i64 0]⟩,
  some ⟨.struct [(0, 3), (1, 3)], 2, 16, [.int .i64 0, .int .i64 0]⟩,
  some ⟨.struct [(0, 124), (1, 128)], 3, 24, [.pointer none, .int .i64 0, .int .i64 0]⟩,
  some ⟨.struct [(0, 124), (1, 128)], 3, 24, [.pointer none, .int .i64 0, .int .i64 0]⟩,
  some ⟨.func, 1, 8, [.nilFunc]⟩,
  some ⟨.func, 1, 8, [.nilFunc]⟩,
  some ⟨.int .i64, 1, 8, [.int .i64 0]⟩,
  none,
  some ⟨.func, 1, 8, [.nilFunc]⟩,
  some ⟨.func, 1, 8, [.nilFunc]⟩,
  some ⟨.func, 1, 8, [.nilFunc]⟩,
  none,
  some ⟨.func, 1, 8, [.nilFunc]⟩,
  some ⟨.func, 1, 8, [.nilFunc]⟩,
  some ⟨.int .u32, 1, 4, [.int .u32 0]⟩,
  some ⟨.func, 1, 8, [.nilFunc]⟩,
  some ⟨.int .u64, 1, 8, [.int .u64 0]⟩,
  some ⟨.func, 1, 8, [.nilFunc]⟩,
  some ⟨.func, 1, 8, [.nilFunc]⟩,
  some ⟨.struct [(0, 145)], 1, 8, [.nilFunc]⟩,
  some ⟨.struct [(0, 145)], 1, 8, [.nilFunc]⟩,
  some ⟨.ptr 174, 1, 8, [.pointer none]⟩,
  some ⟨.func, 1, 8, [.nilFunc]⟩,
  some ⟨.func, 1, 8, [.nilFunc]⟩,
  some ⟨.func, 1, 8, [.nilFunc]⟩,
  some ⟨.ptr 40, 1, 8, [.pointer none]⟩,
  some ⟨.ptr 42, 1, 8, [.pointer none]⟩,
  some ⟨.ptr 44, 1, 8, [.pointer none]⟩,
  some ⟨.ptr 46, 1, 8, [.pointer none]⟩,
  some ⟨.ptr 48, 1, 8, [.pointer none]⟩,
  some ⟨.ptr 50, 1, 8, [.pointer none]⟩,
  some ⟨.ptr 52, 1, 8, [.pointer none]⟩,
  some ⟨.ptr 54, 1, 8, [.pointer none]⟩,
  some ⟨.ptr 56, 1, 8, [.pointer none]⟩,
  some ⟨.ptr 25, 1, 8, [.pointer none]⟩,
  some ⟨.func, 1, 8, [.nilFunc]⟩,
  some ⟨.func, 1, 8, [.nilFunc]⟩,
  some ⟨.func, 1, 8, [.nilFunc]⟩,
  some ⟨.func, 1, 8, [.nilFunc]⟩,
  some ⟨.func, 1, 8, [.nilFunc]⟩,
  some ⟨.int .u64, 1, 8, [.int .u64 0]⟩,
  some ⟨.func, 1, 8, [.nilFunc]⟩,
  some ⟨.func, 1, 8, [.nilFunc]⟩,
  some ⟨.func, 1, 8, [.nilFunc]⟩,
  some ⟨.func, 1, 8, [.nilFunc]⟩,
  some ⟨.func, 1, 8, [.nilFunc]⟩,
  some ⟨.array 4 147, 4, 32, [.nilFunc, .nilFunc, .nilFunc, .nilFunc]⟩,
  some ⟨.array 4 147, 4, 32, [.nilFunc, .nilFunc, .nilFunc, .nilFunc]⟩,
  some ⟨.func, 1, 8, [.nilFunc]⟩,
  some ⟨.func, 1, 8, [.nilFunc]⟩,
  some ⟨.func, 1, 8, [.nilFunc]⟩,
  some ⟨.func, 1, 8, [.nilFunc]⟩,
  some ⟨.func, 1, 8, [.nilFunc]⟩,
  some ⟨.func, 1, 8, [.nilFunc]⟩,
  some ⟨.func, 1, 8, [.nilFunc]⟩,
  some ⟨.ptr 167, 1, 8, [.pointer none]⟩,
  none,
  some ⟨.func, 1, 8, [.nilFunc]⟩,
  some ⟨.array 4 4, 4, 4, [.bool false, .bool false, .bool false, .bool false]⟩,
  some ⟨.func, 1, 8, [.nilFunc]⟩,
  some ⟨.func, 1, 8, [.nilFunc]⟩,
  some ⟨.struct [(0, 17), (1, 17), (2, 17), (3, 9)], 4, 40, [.pointer none, .pointer none, .pointer none, .string { data := #[] }]⟩,
  some ⟨.struct [(0, 17), (1, 17), (2, 17), (3, 9)], 4, 40, [.pointer none, .pointer none, .pointer none, .string { data := #[] }]⟩,
  some ⟨.array 0 16, 0, 0, []⟩,
  some ⟨.struct [(0, 190)], 0, 0, []⟩,
  some ⟨.struct [(0, 190)], 0, 0, []⟩,
  some ⟨.func, 1, 8, [.nilFunc]⟩,
  some ⟨.int .u8, 1, 1, [.int .u8 0]⟩,
  some ⟨.int .u8, 1, 1, [.int .u8 0]⟩,
  some ⟨.func, 1, 8, [.nilFunc]⟩,
  some ⟨.ptr 5, 1, 8, [.pointer none]⟩,
  some ⟨.int .i32, 1, 4, [.int .i32 0]⟩,
  some ⟨.int .i32, 1, 4, [.int .i32 0]⟩,
  some ⟨.struct [(0, 12), (1, 12), (2, 141), (3, 194), (4, 5), (5, 5), (6, 195), (7, 196), (8, 197), (9, 198), (10, 199)], 11, 48, [.int .u64 0, .int .u64 0, .int .u32 0, .int .u8 0, .int .u8 0, .int .u8 0, .int .u8 0, .nilFunc, .pointer none, .int .i32 0, .int .i32 0]⟩,
  some ⟨.struct [(0, 12), (1, 12), (2, 141), (3, 194), (4, 5), (5, 5), (6, 195), (7, 196), (8, 197), (9, 198), (10, 199)], 11, 48, [.int .u64 0, .int .u64 0, .int .u32 0, .int .u8 0, .int .u8 0, .int .u8 0, .int .u8 0, .nilFunc, .pointer none, .int .i32 0, .int .i32 0]⟩]
def Tryz.τ : Tab := fun T => Tryz.tL[T]?.bind id

def AllOk (P : Program) : Nat → List (Option TE) → Prop
  | _, [] => True
  | n, none :: l => AllOk P (n + 1) l
  | n, some e :: l => TyOk P n e ∧ AllOk P (n + 1) l
theorem AllOk.at {P : Program} : ∀ (l : List (Option TE)) (n i : Nat) (e : TE), AllOk P n l → l[i]? = some (some e) → TyOk P (n + i) e
  | [], _, _, _, _, h => by simp at h
  | none :: l, n, 0, _, _, h => by simp at h
  | none :: l, n, i + 1, e, h, hi => by have := AllOk.at l (n + 1) i e h (by simpa using hi); rwa [Nat.add_assoc, Nat.add_comm 1 i] at this
  | some d :: l, n, 0, e, h, hi => by simp at hi; subst hi; exact h.1
  | some d :: l, n, i + 1, e, h, hi => by have := AllOk.at l (n + 1) i e h.2 (by simpa using hi); rwa [Nat.add_assoc, Nat.add_comm 1 i] at this
@[simp] theorem Tryz.τ1 : Tryz.τ 1 = some ⟨.func, 1, 8, [.nilFunc]⟩ := rfl
@[simp] theorem Tryz.τ2 : Tryz.τ 2 = some ⟨.int .i64, 1, 8, [.int .i64 0]⟩ := rfl
@[simp] theorem Tryz.τ3 : Tryz.τ 3 = some ⟨.int .i64, 1, 8, [.int .i64 0]⟩ := rfl
@[simp] theorem Tryz.τ4 : Tryz.τ 4 = some ⟨.bool, 1, 1, [.bool false]⟩ := rfl
@[simp] theorem Tryz.τ5 : Tryz.τ 5 = some ⟨.int .u8, 1, 1, [.int .u8 0]⟩ := rfl
@[simp] theorem Tryz.τ6 : Tryz.τ 6 = some ⟨.int .u8, 1, 1, [.int .u8 0]⟩ := rfl
@[simp] theorem Tryz.τ7 : Tryz.τ 7 = some ⟨.struct [(0, 2), (1, 3), (2, 4), (3, 6)], 4, 24, [.int .i64 0, .int .i64 0, .bool false, .int .u8 0]⟩ := rfl
@[simp] theorem Tryz.τ8 : Tryz.τ 8 = some ⟨.struct [(0, 2), (1, 3), (2, 4), (3, 6)], 4, 24, [.int .i64 0, .int .i64 0, .bool false, .int .u8 0]⟩ := rfl
@[simp] theorem Tryz.τ9 : Tryz.τ 9 = some ⟨.string, 1, 16, [.string { data := #[] }]⟩ := rfl
@[simp] theorem Tryz.τ10 : Tryz.τ 10 = some ⟨.string, 1, 16, [.string { data := #[] }]⟩ := rfl
@[simp] theorem Tryz.τ11 : Tryz.τ 11 = some ⟨.string, 1, 16, [.string { data := #[] }]⟩ := rfl
@[simp] theorem Tryz.τ12 : Tryz.τ 12 = some ⟨.int .u64, 1, 8, [.int .u64 0]⟩ := rfl
@[simp] theorem Tryz.τ13 : Tryz.τ 13 = some ⟨.struct [(0, 9), (1, 12)], 2, 24, [.string { data := #[] }, .int .u64 0]⟩ := rfl
@[simp] theorem Tryz.τ14 : Tryz.τ 14 = some ⟨.struct [(0, 9), (1, 12)], 2, 24, [.string { data := #[] }, .int .u64 0]⟩ := rfl
@[simp] theorem Tryz.τ15 : Tryz.τ 15 = some ⟨.ptr 189, 1, 8, [.pointer none]⟩ := rfl
@[simp] theorem Tryz.τ16 : Tryz.τ 16 = some ⟨.ptr 192, 1, 8, [.pointer none]⟩ := rfl
@[simp] theorem Tryz.τ17 : Tryz.τ 17 = some ⟨.ptr 201, 1, 8, [.pointer none]⟩ := rfl
@[simp] theorem Tryz.τ18 : Tryz.τ 18 = some ⟨.struct [(0, 17)], 1, 8, [.pointer none]⟩ := rfl
@[simp] theorem Tryz.τ19 : Tryz.τ 19 = some ⟨.struct [(0, 17)], 1, 8, [.pointer none]⟩ := rfl
@[simp] theorem Tryz.τ20 : Tryz.τ 20 = some ⟨.iface, 1, 16, [.nilIface]⟩ := rfl
@[simp] theorem Tryz.τ21 : Tryz.τ 21 = some ⟨.int .i32, 1, 4, [.int .i32 0]⟩ := rfl
@[simp] theorem Tryz.τ22 : Tryz.τ 22 = some ⟨.slice 62, 1, 24, [.slice none 0 0]⟩ := rfl
@[simp] theorem Tryz.τ23 : Tryz.τ 23 = some ⟨.func, 1, 8, [.nilFunc]⟩ := rfl
@[simp] theorem Tryz.τ24 : Tryz.τ 24 = some ⟨.struct [(0, 3), (1, 3), (2, 3), (3, 3), (4, 3), (5, 3)], 6, 48, [.int .i64 0, .int .i64 0, .int .i64 0, .int .i64 0, .int .i64 0, .int .i64 0]⟩ := rfl
@[simp] theorem Tryz.τ25 : Tryz.τ 25 = some ⟨.struct [(0, 3), (1, 3), (2, 3), (3, 3), (4, 3), (5, 3)], 6, 48, [.int .i64 0, .int .i64 0, .int .i64 0, .int .i64 0, .int .i64 0, .int .i64 0]⟩ := rfl
@[simp] theorem Tryz.τ27 : Tryz.τ 27 = some ⟨.func, 1, 8, [.nilFunc]⟩ := rfl
@[simp] theorem Tryz.τ28 : Tryz.τ 28 = some ⟨.func, 1, 8, [.nilFunc]⟩ := rfl
@[simp] theorem Tryz.τ29 : Tryz.τ 29 = some ⟨.slice 25, 1, 24, [.slice none 0 0]⟩ := rfl
@[simp] theorem Tryz.τ30 : Tryz.τ 30 = some ⟨.func, 1, 8, [.nilFunc]⟩ := rfl
@[simp] theorem Tryz.τ31 : Tryz.τ 31 = some ⟨.func, 1, 8, [.nilFunc]⟩ := rfl
@[simp] theorem Tryz.τ32 : Tryz.τ 32 = some ⟨.func, 1, 8, [.nilFunc]⟩ := rfl
@[simp] theorem Tryz.τ33 : Tryz.τ 33 = some ⟨.slice 60, 1, 24, [.slice none 0 0]⟩ := rfl
@[simp] theorem Tryz.τ34 : Tryz.τ 34 = some ⟨.func, 1, 8, [.nilFunc]⟩ := rfl
@[simp] theorem Tryz.τ35 : Tryz.τ 35 = some ⟨.func, 1, 8, [.nilFunc]⟩ := rfl
@[simp] theorem Tryz.τ36 : Tryz.τ 36 = some ⟨.slice 54, 1, 24, [.slice none 0 0]⟩ := rfl
@[simp] theorem Tryz.τ37 : Tryz.τ 37 = some ⟨.func, 1, 8, [.nilFunc]⟩ := rfl
@[simp] theorem Tryz.τ38 : Tryz.τ 38 = some ⟨.func, 1, 8, [.nilFunc]⟩ := rfl
@[simp] theorem Tryz.τ39 : Tryz.τ 39 = some ⟨.struct [(0, 3), (1, 3), (2, 3), (3, 3), (4, 3), (5, 3), (6, 3), (7, 3)], 8, 64, [.int .i64 0, .int .i64 0, .int .i64 0, .int .i64 0, .int .i64 0, .int .i64 0, .int .i64 0, .int .i64 0]⟩ := rfl
@[simp] theorem Tryz.τ40 : Tryz.τ 40 = some ⟨.struct [(0, 3), (1, 3), (2, 3), (3, 3), (4, 3), (5, 3), (6, 3), (7, 3)], 8, 64, [.int .i64 0, .int .i64 0, .int .i64 0, .int .i64 0, .int .i64 0, .int .i64 0, .int .i64 0, .int .i64 0]⟩ := rfl
@[simp] theorem Tryz.τ41 : Tryz.τ 41 = some ⟨.struct [(0, 3), (1, 3), (2, 3), (3, 3)], 4, 32, [.int .i64 0, .int .i64 0, .int .i64 0, .int .i64 0]⟩ := rfl
@[simp] theorem Tryz.τ42 : Tryz.τ 42 = some ⟨.struct [(0, 3), (1, 3), (2, 3), (3, 3)], 4, 32, [.int .i64 0, .int .i64 0, .int .i64 0, .int .i64 0]⟩ := rfl
@[simp] theorem Tryz.τ43 : Tryz.τ 43 = some ⟨.struct [(0, 3), (1, 3), (2, 3), (3, 3), (4, 3)], 5, 40, [.int .i64 0, .int .i64 0, .int .i64 0, .int .i64 0, .int .i64 0]⟩ := rfl
@[simp] theorem Tryz.τ44 : Tryz.τ 44 = some ⟨.struct [(0, 3), (1, 3), (2, 3), (3, 3), (4, 3)], 5, 40, [.int .i64 0, .int .i64 0, .int .i64 0, .int .i64 0, .int .i64 0]⟩ := rfl
@[simp] theorem Tryz.τ45 : Tryz.τ 45 = some ⟨.struct [(0, 3), (1, 3), (2, 3), (3, 3), (4, 3), (5, 3), (6, 3), (7, 3)], 8, 64, [.int .i64 0, .int .i64 0, .int .i64 0, .int .i64 0, .int .i64 0, .int .i64 0, .int .i64 0, .int .i64 0]⟩ := rfl
@[simp] theorem Tryz.τ46 : Tryz.τ 46 = some ⟨.struct [(0, 3), (1, 3), (2, 3), (3, 3), (4, 3), (5, 3), (6, 3), (7, 3)], 8, 64, [.int .i64 0, .int .i64 0, .int .i64 0, .int .i64 0, .int .i64 0, .int .i64 0, .int .i64 0, .int .i64 0]⟩ := rfl
@[simp] theorem Tryz.τ47 : Tryz.τ 47 = some ⟨.struct [(0, 3), (1, 3), (2, 3), (3, 3)], 4, 32, [.int .i64 0, .int .i64 0, .int .i64 0, .int .i64 0]⟩ := rfl
@[simp] theorem Tryz.τ48 : Tryz.τ 48 = some ⟨.struct [(0, 3), (1, 3), (2, 3), (3, 3)], 4, 32, [.int .i64 0, .int .i64 0, .int .i64 0, .int .i64 0]⟩ := rfl
@[simp] theorem Tryz.τ49 : Tryz.τ 49 = some ⟨.struct [(0, 3), (1, 3), (2, 3), (3, 3)], 4, 32, [.int .i64 0, .int .i64 0, .int .i64 0, .int .i64 0]⟩ := rfl
@[simp] theorem Tryz.τ50 : Tryz.τ 50 = some ⟨.struct [(0, 3), (1, 3), (2, 3), (3, 3)], 4, 32, [.int .i64 0, .int .i64 0, .int .i64 0, .int .i64 0]⟩ := rfl
@[simp] theorem Tryz.τ51 : Tryz.τ 51 = some ⟨.struct [(0, 3), (1, 3)], 2, 16, [.int .i64 0, .int .i64 0]⟩ := rfl
@[simp] theorem Tryz.τ52 : Tryz.τ 52 = some ⟨.struct [(0, 3), (1, 3)], 2, 16, [.int .i64 0, .int .i64 0]⟩ := rfl
@[simp] theorem Tryz.τ53 : Tryz.τ 53 = some ⟨.struct [(0, 3), (1, 3), (2, 3), (3, 3)], 4, 32, [.int .i64 0, .int .i64 0, .int .i64 0, .int .i64 0]⟩ := rfl
@[simp] theorem Tryz.τ54 : Tryz.τ 54 = some ⟨.struct [(0, 3), (1, 3), (2, 3), (3, 3)], 4, 32, [.int .i64 0, .int .i64 0, .int .i64 0, .int .i64 0]⟩ := rfl
@[simp] theorem Tryz.τ55 : Tryz.τ 55 = some ⟨.struct [(0, 3), (1, 3), (2, 3), (3, 3)], 4, 32, [.int .i64 0, .int .i64 0, .int .i64 0, .int .i64 0]⟩ := rfl
@[simp] theorem Tryz.τ56 : Tryz.τ 56 = some ⟨.struct [(0, 3), (1, 3), (2, 3), (3, 3)], 4, 32, [.int .i64 0, .int .i64 0, .int .i64 0, .int .i64 0]⟩ := rfl
@[simp] theorem Tryz.τ57 : Tryz.τ 57 = some ⟨.struct [(0, 3), (1, 4)], 2, 16, [.int .i64 0, .bool false]⟩ := rfl
@[simp] theorem Tryz.τ58 : Tryz.τ 58 = some ⟨.struct [(0, 3), (1, 4)], 2, 16, [.int .i64 0, .bool false]⟩ := rfl
@[simp] theorem Tryz.τ59 : Tryz.τ 59 = some ⟨.struct [(0, 3), (1, 3)], 2, 16, [.int .i64 0, .int .i64 0]⟩ := rfl
@[simp] theorem Tryz.τ60 : Tryz.τ 60 = some ⟨.struct [(0, 3), (1, 3)], 2, 16, [.int .i64 0, .int .i64 0]⟩ := rfl
@[simp] theorem Tryz.τ61 : Tryz.τ 61 = some ⟨.struct [(0, 3), (1, 3), (2, 3), (3, 3), (4, 40), (12, 42), (16, 44), (21, 46), (29, 48), (33, 50), (37, 52), (39, 54), (43, 56), (47, 25), (53, 58), (55, 60)], 57, 456, [.int .i64 0, .int .i64 0, .int .i64 0, .int .i64 0, .int .i64 0, .int .i64 0, .int .i64 0, .int .i64 0, .int .i64 0, .int .i64 0, .int .i64 0, .int .i64 0, .int .i64 0, .int .i64 0, .int .i64 0, .int .i64 0, .int .i64 0, .int .i64 0, .int .i64 0, .int .i64 0, .int .i64 0, .int .i64 0, .int .i64 0, .int .i64 0, .int .i64 0, .int .i64 0, .int .i64 0, .int .i64 0, .int .i64 0, .int .i64 0, .int .i64 0, .int .i64 0, .int .i64 0, .int .i64 0, .int .i64 0, .int .i64 0, .int .i64 0, .int .i64 0, .int .i64 0, .int .i64 0, .int .i64 0, .int .i64 0, .int .i64 0, .int .i64 0, .int .i64 0, .int .i64 0, .int .i64 0, .int .i64 0, .int .i64 0, .int .i64 0, .int .i64 0, .int .i64 0, .int .i64 0, .int .i64 0, .bool false, .int .i64 0, .int .i64 0]⟩ := rfl
@[simp] theorem Tryz.τ62 : Tryz.τ 62 = some ⟨.struct [(0, 3), (1, 3), (2, 3), (3, 3), (4, 40), (12, 42), (16, 44), (21, 46), (29, 48), (33, 50), (37, 52), (39, 54), (43, 56), (47, 25), (53, 58), (55, 60)], 57, 456, [.int .i64 0, .int .i64 0, .int .i64 0, .int .i64 0, .int .i64 0, .int .i64 0, .int .i64 0, .int .i64 0, .int .i64 0, .int .i64 0, .int .i64 0, .int .i64 0, .int .i64 0, .int .i64 0, .int .i64 0, .int .i64 0, .int .i64 0, .int .i64 0, .int .i64 0, .int .i64 0, .int .i64 0, .int .i64 0, .int .i64 0, .int .i64 0, .int .i64 0, .int .i64 0, .int .i64 0, .int .i64 0, .int .i64 0, .int .i64 0, .int .i64 0, .int .i64 0, .int .i64 0, .int .i64 0, .int .i64 0, .int .i64 0, .int .i64 0, .int .i64 0, .int .i64 0, .int .i64 0, .int .i64 0, .int .i64 0, .int .i64 0, .int .i64 0, .int .i64 0, .int .i64 0, .int .i64 0, .int .i64 0, .int .i64 0, .int .i64 0, .int .i64 0, .int .i64 0, .int .i64 0, .int .i64 0, .bool false, .int .i64 0, .int .i64 0]⟩ := rfl
@[simp] theorem Tryz.τ63 : Tryz.τ 63 = some ⟨.func, 1, 8, [.nilFunc]⟩ := rfl
@[simp] theorem Tryz.τ64 : Tryz.τ 64 = some ⟨.ptr 75, 1, 8, [.pointer none]⟩ := rfl
@[simp] theorem Tryz.τ65 : Tryz.τ 65 = some ⟨.func, 1, 8, [.nilFunc]⟩ := rfl
@[simp] theorem Tryz.τ66 : Tryz.τ 66 = some ⟨.func, 1, 8, [.nilFunc]⟩ := rfl
@[simp] theorem Tryz.τ67 : Tryz.τ 67 = some ⟨.func, 1, 8, [.nilFunc]⟩ := rfl
@[simp] theorem Tryz.τ68 : Tryz.τ 68 = some ⟨.func, 1, 8, [.nilFunc]⟩ := rfl
@[simp] theorem Tryz.τ69 : Tryz.τ 69 = some ⟨.slice 64, 1, 24, [.slice none 0 0]⟩ := rfl
@[simp] theorem Tryz.τ70 : Tryz.τ 70 = some ⟨.func, 1, 8, [.nilFunc]⟩ := rfl
@[simp] theorem Tryz.τ71 : Tryz.τ 71 = some ⟨.slice 3, 1, 24, [.slice none 0 0]⟩ := rfl
@[simp] theorem Tryz.τ72 : Tryz.τ 72 = some ⟨.func, 1, 8, [.nilFunc]⟩ := rfl
@[simp] theorem Tryz.τ73 : Tryz.τ 73 = some ⟨.array 3 22, 3, 72, [.slice none 0 0, .slice none 0 0, .slice none 0 0]⟩ := rfl
@[simp] theorem Tryz.τ74 : Tryz.τ 74 = some ⟨.struct [(0, 3), (1, 73), (4, 36), (5, 4)], 6, 112, [.int .i64 0, .slice none 0 0, .slice none 0 0, .slice none 0 0, .slice none 0 0, .bool false]⟩ := rfl
@[simp] theorem Tryz.τ75 : Tryz.τ 75 = some ⟨.struct [(0, 3), (1, 73), (4, 36), (5, 4)], 6, 112, [.int .i64 0, .slice none 0 0, .slice none 0 0, .slice none 0 0, .slice none 0 0, .bool false]⟩ := rfl
@[simp] theorem Tryz.τ76 : Tryz.τ 76 = some ⟨.func, 1, 8, [.nilFunc]⟩ := rfl
@[simp] theorem Tryz.τ77 : Tryz.τ 77 = some ⟨.func, 1, 8, [.nilFunc]⟩ := rfl
@[simp] theorem Tryz.τ78 : Tryz.τ 78 = some ⟨.func, 1, 8, [.nilFunc]⟩ := rfl
@[simp] theorem Tryz.τ79 : Tryz.τ 79 = some ⟨.func, 1, 8, [.nilFunc]⟩ := rfl
@[simp] theorem Tryz.τ80 : Tryz.τ 80 = some ⟨.func, 1, 8, [.nilFunc]⟩ := rfl
@[simp] theorem Tryz.τ81 : Tryz.τ 81 = some ⟨.int .i64, 1, 8, [.int .i64 0]⟩ := rfl
@[simp] theorem Tryz.τ82 : Tryz.τ 82 = some ⟨.func, 1, 8, [.nilFunc]⟩ := rfl
@[simp] theorem Tryz.τ83 : Tryz.τ 83 = some ⟨.map 3 64, 1, 8, [.map none]⟩ := rfl
@[simp] theorem Tryz.τ84 : Tryz.τ 84 = some ⟨.func, 1, 8, [.nilFunc]⟩ := rfl
@[simp] theorem Tryz.τ85 : Tryz.τ 85 = some ⟨.func, 1, 8, [.nilFunc]⟩ := rfl
@[simp] theorem Tryz.τ86 : Tryz.τ 86 = some ⟨.func, 1, 8, [.nilFunc]⟩ := rfl
@[simp] theorem Tryz.τ87 : Tryz.τ 87 = some ⟨.func, 1, 8, [.nilFunc]⟩ := rfl
@[simp] theorem Tryz.τ88 : Tryz.τ 88 = some ⟨.func, 1, 8, [.nilFunc]⟩ := rfl
@[simp] theorem Tryz.τ89 : Tryz.τ 89 = some ⟨.func, 1, 8, [.nilFunc]⟩ := rfl
@[simp] theorem Tryz.τ90 : Tryz.τ 90 = some ⟨.func, 1, 8, [.nilFunc]⟩ := rfl
@[simp] theorem Tryz.τ91 : Tryz.τ 91 = some ⟨.func, 1, 8, [.nilFunc]⟩ := rfl
@[simp] theorem Tryz.τ92 : Tryz.τ 92 = some ⟨.slice 5, 1, 24, [.slice none 0 0]⟩ := rfl
@[simp] theorem Tryz.τ94 : Tryz.τ 94 = some ⟨.func, 1, 8, [.nilFunc]⟩ := rfl
@[simp] theorem Tryz.τ95 : Tryz.τ 95 = some ⟨.func, 1, 8, [.nilFunc]⟩ := rfl
@[simp] theorem Tryz.τ96 : Tryz.τ 96 = some ⟨.func, 1, 8, [.nilFunc]⟩ := rfl
@[simp] theorem Tryz.τ97 : Tryz.τ 97 = some ⟨.func, 1, 8, [.nilFunc]⟩ := rfl
@[simp] theorem Tryz.τ98 : Tryz.τ 98 = some ⟨.func, 1, 8, [.nilFunc]⟩ := rfl
@[simp] theorem Tryz.τ99 : Tryz.τ 99 = some ⟨.func, 1, 8, [.nilFunc]⟩ := rfl
@[simp] theorem Tryz.τ101 : Tryz.τ 101 = some ⟨.func, 1, 8, [.nilFunc]⟩ := rfl
@[simp] theorem Tryz.τ102 : Tryz.τ 102 = some ⟨.func, 1, 8, [.nilFunc]⟩ := rfl
@[simp] theorem Tryz.τ103 : Tryz.τ 103 = some ⟨.func, 1, 8, [.nilFunc]⟩ := rfl
@[simp] theorem Tryz.τ104 : Tryz.τ 104 = some ⟨.func, 1, 8, [.nilFunc]⟩ := rfl
@[simp] theorem Tryz.τ105 : Tryz.τ 105 = some ⟨.func, 1, 8, [.nilFunc]⟩ := rfl
@[simp] theorem Tryz.τ106 : Tryz.τ 106 = some ⟨.func, 1, 8, [.nilFunc]⟩ := rfl
@[simp] theorem Tryz.τ107 : Tryz.τ 107 = some ⟨.func, 1, 8, [.nilFunc]⟩ := rfl
@[simp] theorem Tryz.τ108 : Tryz.τ 108 = some ⟨.int .u64, 1, 8, [.int .u64 0]⟩ := rfl
@[simp] theorem Tryz.τ109 : Tryz.τ 109 = some ⟨.slice 111, 1, 24, [.slice none 0 0]⟩ := rfl
@[simp] theorem Tryz.τ110 : Tryz.τ 110 = some ⟨.struct [(0, 3), (1, 3), (2, 9), (3, 109)], 4, 56, [.int .i64 0, .int .i64 0, .string { data := #[] }, .slice none 0 0]⟩ := rfl
@[simp] theorem Tryz.τ111 : Tryz.τ 111 = some ⟨.struct [(0, 3), (1, 3), (2, 9), (3, 109)], 4, 56, [.int .i64 0, .int .i64 0, .string { data := #[] }, .slice none 0 0]⟩ := rfl
@[simp] theorem Tryz.τ112 : Tryz.τ 112 = some ⟨.func, 1, 8, [.nilFunc]⟩ := rfl
@[simp] theorem Tryz.τ113 : Tryz.τ 113 = some ⟨.func, 1, 8, [.nilFunc]⟩ := rfl
@[simp] theorem Tryz.τ114 : Tryz.τ 114 = some ⟨.func, 1, 8, [.nilFunc]⟩ := rfl
@[simp] theorem Tryz.τ115 : Tryz.τ 115 = some ⟨.func, 1, 8, [.nilFunc]⟩ := rfl
@[simp] theorem Tryz.τ116 : Tryz.τ 116 = some ⟨.func, 1, 8, [.nilFunc]⟩ := rfl
@[simp] theorem Tryz.τ117 : Tryz.τ 117 = some ⟨.func, 1, 8, [.nilFunc]⟩ := rfl
@[simp] theorem Tryz.τ118 : Tryz.τ 118 = some ⟨.slice 130, 1, 24, [.slice none 0 0]⟩ := rfl
@[simp] theorem Tryz.τ119 : Tryz.τ 119 = some ⟨.struct [(0, 118), (1, 23)], 2, 32, [.slice none 0 0, .nilFunc]⟩ := rfl
@[simp] theorem Tryz.τ120 : Tryz.τ 120 = some ⟨.struct [(0, 118), (1, 23)], 2, 32, [.slice none 0 0, .nilFunc]⟩ := rfl
@[simp] theorem Tryz.τ122 : Tryz.τ 122 = some ⟨.func, 1, 8, [.nilFunc]⟩ := rfl
@[simp] theorem Tryz.τ123 : Tryz.τ 123 = some ⟨.ptr 62, 1, 8, [.pointer none]⟩ := rfl
@[simp] theorem Tryz.τ124 : Tryz.τ 124 = some ⟨.ptr 3, 1, 8, [.pointer none]⟩ := rfl
@[simp] theorem Tryz.τ125 : Tryz.τ 125 = some ⟨.func, 1, 8, [.nilFunc]⟩ := rfl
@[simp] theorem Tryz.τ126 : Tryz.τ 126 = some ⟨.func, 1, 8, [.nilFunc]⟩ := rfl
@[simp] theorem Tryz.τ127 : Tryz.τ 127 = some ⟨.struct [(0, 3), (1, 3)], 2, 16, [.int .i64 0, .int .i64 0]⟩ := rfl
@[simp] theorem Tryz.τ128 : Tryz.τ 128 = some ⟨.struct [(0, 3), (1, 3)], 2, 16, [.int .i64 0, .int .i64 0]⟩ := rfl
@[simp] theorem Tryz.τ129 : Tryz.τ 129 = some ⟨.struct [(0, 124), (1, 128)], 3, 24, [.pointer none, .int .i64 0, .int .i64 0]⟩ := rfl
@[simp] theorem Tryz.τ130 : Tryz.τ 130 = some ⟨.struct [(0, 124), (1, 128)], 3, 24, [.pointer none, .int .i64 0, .int .i64 0]⟩ := rfl
@[simp] theorem Tryz.τ131 : Tryz.τ 131 = some ⟨.func, 1, 8, [.nilFunc]⟩ := rfl
@[simp] theorem Tryz.τ132 : Tryz.τ 132 = some ⟨.func, 1, 8, [.nilFunc]⟩ := rfl
@[simp] theorem Tryz.τ133 : Tryz.τ 133 = some ⟨.int .i64, 1, 8, [.int .i64 0]⟩ := rfl
@[simp] theorem Tryz.τ135 : Tryz.τ 135 = some ⟨.func, 1, 8, [.nilFunc]⟩ := rfl
@[simp] theorem Tryz.τ136 : Tryz.τ 136 = some ⟨.func, 1, 8, [.nilFunc]⟩ := rfl
@[simp] theorem Tryz.τ137 : Tryz.τ 137 = some ⟨.func, 1, 8, [.nilFunc]⟩ := rfl
@[simp] theorem Tryz.τ139 : Tryz.τ 139 = some ⟨.func, 1, 8, [.nilFunc]⟩ := rfl
@[simp] theorem Tryz.τ140 : Tryz.τ 140 = some ⟨.func, 1, 8, [.nilFunc]⟩ := rfl
@[simp] theorem Tryz.τ141 : Tryz.τ 141 = some ⟨.int .u32, 1, 4, [.int .u32 0]⟩ := rfl
@[simp] theorem Tryz.τ142 : Tryz.τ 142 = some ⟨.func, 1, 8, [.nilFunc]⟩ := rfl
@[simp] theorem Tryz.τ143 : Tryz.τ 143 = some ⟨.int .u64, 1, 8, [.int .u64 0]⟩ := rfl
@[simp] theorem Tryz.τ144 : Tryz.τ 144 = some ⟨.func, 1, 8, [.nilFunc]⟩ := rfl
@[simp] theorem Tryz.τ145 : Tryz.τ 145 = some ⟨.func, 1, 8, [.nilFunc]⟩ := rfl
@[simp] theorem Tryz.τ146 : Tryz.τ 146 = some ⟨.struct [(0, 145)], 1, 8, [.nilFunc]⟩ := rfl
@[simp] theorem Tryz.τ147 : Tryz.τ 147 = some ⟨.struct [(0, 145)], 1, 8, [.nilFunc]⟩ := rfl
@[simp] theorem Tryz.τ148 : Tryz.τ 148 = some ⟨.ptr 174, 1, 8, [.pointer none]⟩ := rfl
@[simp] theorem Tryz.τ149 : Tryz.τ 149 = some ⟨.func, 1, 8, [.nilFunc]⟩ := rfl
@[simp] theorem Tryz.τ150 : Tryz.τ 150 = some ⟨.func, 1, 8, [.nilFunc]⟩ := rfl
@[simp] theorem Tryz.τ151 : Tryz.τ 151 = some ⟨.func, 1, 8, [.nilFunc]⟩ := rfl
@[simp] theorem Tryz.τ152 : Tryz.τ 152 = some ⟨.ptr 40, 1, 8, [.pointer none]⟩ := rfl
@[simp] theorem Tryz.τ153 : Tryz.τ 153 = some ⟨.ptr 42, 1, 8, [.pointer none]⟩ := rfl
@[simp] theorem Tryz.τ154 : Tryz.τ 154 = some ⟨.ptr 44, 1, 8, [.pointer none]⟩ := rfl
@[simp] theorem Tryz.τ155 : Tryz.τ 155 = some ⟨.ptr 46, 1, 8, [.pointer none]⟩ := rfl
@[simp] theorem Tryz.τ156 : Tryz.τ 156 = some ⟨.ptr 48, 1, 8, [.pointer none]⟩ := rfl
@[simp] theorem Tryz.τ157 : Tryz.τ 157 = some ⟨.ptr 50, 1, 8, [.pointer none]⟩ := rfl
@[simp] theorem Tryz.τ158 : Tryz.τ 158 = some ⟨.ptr 52, 1, 8, [.pointer none]⟩ := rfl
@[simp] theorem Tryz.τ159 : Tryz.τ 159 = some ⟨.ptr 54, 1, 8, [.pointer none]⟩ := rfl
@[simp] theorem Tryz.τ160 : Tryz.τ 160 = some ⟨.ptr 56, 1, 8, [.pointer none]⟩ := rfl
@[simp] theorem Tryz.τ161 : Tryz.τ 161 = some ⟨.ptr 25, 1, 8, [.pointer none]⟩ := rfl
@[simp] theorem Tryz.τ162 : Tryz.τ 162 = some ⟨.func, 1, 8, [.nilFunc]⟩ := rfl
@[simp] theorem Tryz.τ163 : Tryz.τ 163 = some ⟨.func, 1, 8, [.nilFunc]⟩ := rfl
@[simp] theorem Tryz.τ164 : Tryz.τ 164 = some ⟨.func, 1, 8, [.nilFunc]⟩ := rfl
@[simp] theorem Tryz.τ165 : Tryz.τ 165 = some ⟨.func, 1, 8, [.nilFunc]⟩ := rfl
@[simp] theorem Tryz.τ166 : Tryz.τ 166 = some ⟨.func, 1, 8, [.nilFunc]⟩ := rfl
@[simp] theorem Tryz.τ167 : Tryz.τ 167 = some ⟨.int .u64, 1, 8, [.int .u64 0]⟩ := rfl
@[simp] theorem Tryz.τ168 : Tryz.τ 168 = some ⟨.func, 1, 8, [.nilFunc]⟩ := rfl
@[simp] theorem Tryz.τ169 : Tryz.τ 169 = some ⟨.func, 1, 8, [.nilFunc]⟩ := rfl
@[simp] theorem Tryz.τ170 : Tryz.τ 170 = some ⟨.func, 1, 8, [.nilFunc]⟩ := rfl
@[simp] theorem Tryz.τ171 : Tryz.τ 171 = some ⟨.func, 1, 8, [.nilFunc]⟩ := rfl
@[simp] theorem Tryz.τ172 : Tryz.τ 172 = some ⟨.func, 1, 8, [.nilFunc]⟩ := rfl
@[simp] theorem Tryz.τ173 : Tryz.τ 173 = some ⟨.array 4 147, 4, 32, [.nilFunc, .nilFunc, .nilFunc, .nilFunc]⟩ := rfl
@[simp] theorem Tryz.τ174 : Tryz.τ 174 = some ⟨.array 4 147, 4, 32, [.nilFunc, .nilFunc, .nilFunc, .nilFunc]⟩ := rfl
@[simp] theorem Tryz.τ175 : Tryz.τ 175 = some ⟨.func, 1, 8, [.nilFunc]⟩ := rfl
@[simp] theorem Tryz.τ176 : Tryz.τ 176 = some ⟨.func, 1, 8, [.nilFunc]⟩ := rfl
@[simp] theorem Tryz.τ177 : Tryz.τ 177 = some ⟨.func, 1, 8, [.nilFunc]⟩ := rfl
@[simp] theorem Tryz.τ178 : Tryz.τ 178 = some ⟨.func, 1, 8, [.nilFunc]⟩ := rfl
@[simp] theorem Tryz.τ179 : Tryz.τ 179 = some ⟨.func, 1, 8, [.nilFunc]⟩ := rfl
@[simp] theorem Tryz.τ180 : Tryz.τ 180 = some ⟨.func, 1, 8, [.nilFunc]⟩ := rfl
@[simp] theorem Tryz.τ181 : Tryz.τ 181 = some ⟨.func, 1, 8, [.nilFunc]⟩ := rfl
@[simp] theorem Tryz.τ182 : Tryz.τ 182 = some ⟨.ptr 167, 1, 8, [.pointer none]⟩ := rfl
@[simp] theorem Tryz.τ184 : Tryz.τ 184 = some ⟨.func, 1, 8, [.nilFunc]⟩ := rfl
@[simp] theorem Tryz.τ185 : Tryz.τ 185 = some ⟨.array 4 4, 4, 4, [.bool false, .bool false, .bool false, .bool false]⟩ := rfl
@[simp] theorem Tryz.τ186 : Tryz.τ 186 = some ⟨.func, 1, 8, [.nilFunc]⟩ := rfl
@[simp] theorem Tryz.τ187 : Tryz.τ 187 = some ⟨.func, 1, 8, [.nilFunc]⟩ := rfl
@[simp] theorem Tryz.τ188 : Tryz.τ 188 = some ⟨.struct [(0, 17), (1, 17), (2, 17), (3, 9)], 4, 40, [.pointer none, .pointer none, .pointer none, .string { data := #[] }]⟩ := rfl
@[simp] theorem Tryz.τ189 : Tryz.τ 189 = some ⟨.struct [(0, 17), (1, 17), (2, 17), (3, 9)], 4, 40, [.pointer none, .pointer none, .pointer none, .string { data := #[] }]⟩ := rfl
@[simp] theorem Tryz.τ190 : Tryz.τ 190 = some ⟨.array 0 16, 0, 0, []⟩ := rfl
@[simp] theorem Tryz.τ191 : Tryz.τ 191 = some ⟨.struct [(0, 190)], 0, 0, []⟩ := rfl
@[simp] theorem Tryz.τ192 : Tryz.τ 192 = some ⟨.struct [(0, 190)], 0, 0, []⟩ := rfl
@[simp] theorem Tryz.τ193 : Tryz.τ 193 = some ⟨.func, 1, 8, [.nilFunc]⟩ := rfl
@[simp] theorem Tryz.τ194 : Tryz.τ 194 = some ⟨.int .u8, 1, 1, [.int .u8 0]⟩ := rfl
@[simp] theorem Tryz.τ195 : Tryz.τ 195 = some ⟨.int .u8, 1, 1, [.int .u8 0]⟩ := rfl
@[simp] theorem Tryz.τ196 : Tryz.τ 196 = some ⟨.func, 1, 8, [.nilFunc]⟩ := rfl
@[simp] theorem Tryz.τ197 : Tryz.τ 197 = some ⟨.ptr 5, 1, 8, [.pointer none]⟩ := rfl
@[simp] theorem Tryz.τ198 : Tryz.τ 198 = some ⟨.int .i32, 1, 4, [.int .i32 0]⟩ := rfl
@[simp] theorem Tryz.τ199 : Tryz.τ 199 = some ⟨.int .i32, 1, 4, [.int .i32 0]⟩ := rfl
@[simp] theorem Tryz.τ200 : Tryz.τ 200 = some ⟨.struct [(0, 12), (1, 12), (2, 141), (3, 194), (4, 5), (5, 5), (6, 195), (7, 196), (8, 197), (9, 198), (10, 199)], 11, 48, [.int .u64 0, .int .u64 0, .int .u32 0, .int .u8 0, .int .u8 0, .int .u8 0, .int .u8 0, .nilFunc, .pointer none, .int .i32 0, .int .i32 0]⟩ := rfl
@[simp] theorem Tryz.τ201 : Tryz.τ 201 = some ⟨.struct [(0, 12), (1, 12), (2, 141), (3, 194), (4, 5), (5, 5), (6, 195), (7, 196), (8, 197), (9, 198), (10, 199)], 11, 48, [.int .u64 0, .int .u64 0, .int .u32 0, .int .u8 0, .int .u8 0, .int .u8 0, .int .u8 0, .nilFunc, .pointer none, .int .i32 0, .int .i32 0]⟩ := rfl
set_option maxRecDepth 100000 in
theorem Tryz.ty1 : TyOk Tryz.prog 1 ⟨.func, 1, 8, [.nilFunc]⟩ := ⟨⟨Tryz.t1, _, by kernel_rfl, rfl, rfl, rfl, rfl, rfl, rfl⟩, ⟨_, Tryz.underlying1, ⟨_, _, _, rfl⟩⟩⟩
theorem Tryz.ty2 : TyOk Tryz.prog 2 ⟨.int .i64, 1, 8, [.int .i64 0]⟩ := ⟨⟨Tryz.t2, _, by kernel_rfl, rfl, rfl, rfl, rfl, rfl, rfl⟩, ⟨_, Tryz.underlying2, rfl⟩⟩
theorem Tryz.ty3 : TyOk Tryz.prog 3 ⟨.int .i64, 1, 8, [.int .i64 0]⟩ := ⟨⟨Tryz.t3, _, by kernel_rfl, rfl, rfl, rfl, rfl, rfl, rfl⟩, ⟨_, Tryz.underlying3, rfl⟩⟩
theorem Tryz.ty4 : TyOk Tryz.prog 4 ⟨.bool, 1, 1, [.bool false]⟩ := ⟨⟨Tryz.t4, _, by kernel_rfl, rfl, rfl, rfl, rfl, rfl, rfl⟩, ⟨_, Tryz.underlying4, rfl⟩⟩
theorem Tryz.ty5 : TyOk Tryz.prog 5 ⟨.int .u8, 1, 1, [.int .u8 0]⟩ := ⟨⟨Tryz.t5, _, by kernel_rfl, rfl, rfl, rfl, rfl, rfl, rfl⟩, ⟨_, Tryz.underlying5, rfl⟩⟩
theorem Tryz.ty6 : TyOk Tryz.prog 6 ⟨.int .u8, 1, 1, [.int .u8 0]⟩ := ⟨⟨Tryz.t6, _, by kernel_rfl, rfl, rfl, rfl, rfl, rfl, rfl⟩, ⟨_, Tryz.underlying6, rfl⟩⟩
theorem Tryz.ty7 : TyOk Tryz.prog 7 ⟨.struct [(0, 2), (1, 3), (2, 4), (3, 6)], 4, 24, [.int .i64 0, .int .i64 0, .bool false, .int .u8 0]⟩ := ⟨⟨Tryz.t7, _, by kernel_rfl, rfl, rfl, rfl, rfl, rfl, rfl⟩, ⟨_, Tryz.underlying7, ⟨_, rfl, rfl⟩⟩⟩
theorem Tryz.ty8 : TyOk Tryz.prog 8 ⟨.struct [(0, 2), (1, 3), (2, 4), (3, 6)], 4, 24, [.int .i64 0, .int .i64 0, .bool false, .int .u8 0]⟩ := ⟨⟨Tryz.t8, _, by kernel_rfl, rfl, rfl, rfl, rfl, rfl, rfl⟩, ⟨_, Tryz.underlying8, ⟨_, rfl, rfl⟩⟩⟩
theorem Tryz.ty9 : TyOk Tryz.prog 9 ⟨.string, 1, 16, [.string { data := #[] }]⟩ := ⟨⟨Tryz.t9, _, by kernel_rfl, rfl, rfl, rfl, rfl, rfl, rfl⟩, ⟨_, Tryz.underlying9, rfl⟩⟩
theorem Tryz.ty10 : TyOk Tryz.prog 10 ⟨.string, 1, 16, [.string { data := #[] }]⟩ := ⟨⟨Tryz.t10, _, by kernel_rfl, rfl, rfl, rfl, rfl, rfl, rfl⟩, ⟨_, Tryz.underlying10, rfl⟩⟩
theorem Tryz.ty11 : TyOk Tryz.prog 11 ⟨.string, 1, 16, [.string { data := #[] }]⟩ := ⟨⟨Tryz.t11, _, by kernel_rfl, rfl, rfl, rfl, rfl, rfl, rfl⟩, ⟨_, Tryz.underlying11, rfl⟩⟩
theorem Tryz.ty12 : TyOk Tryz.prog 12 ⟨.int .u64, 1, 8, [.int .u64 0]⟩ := ⟨⟨Tryz.t12, _, by kernel_rfl, rfl, rfl, rfl, rfl, rfl, rfl⟩, ⟨_, Tryz.underlying12, rfl⟩⟩
theorem Tryz.ty13 : TyOk Tryz.prog 13 ⟨.struct [(0, 9), (1, 12)], 2, 24, [.string { data := #[] }, .int .u64 0]⟩ := ⟨⟨Tryz.t13, _, by kernel_rfl, rfl, rfl, rfl, rfl, rfl, rfl⟩, ⟨_, Tryz.underlying13, ⟨_, rfl, rfl⟩⟩⟩
theorem Tryz.ty14 : TyOk Tryz.prog 14 ⟨.struct [(0, 9), (1, 12)], 2, 24, [.string { data := #[] }, .int .u64 0]⟩ := ⟨⟨Tryz.t14, _, by kernel_rfl, rfl, rfl, rfl, rfl, rfl, rfl⟩, ⟨_, Tryz.underlying14, ⟨_, rfl, rfl⟩⟩⟩
theorem Tryz.ty15 : TyOk Tryz.prog 15 ⟨.ptr 189, 1, 8, [.pointer none]⟩ := ⟨⟨Tryz.t15, _, by kernel_rfl, rfl, rfl, rfl, rfl, rfl, rfl⟩, ⟨_, Tryz.underlying15, rfl⟩⟩
theorem Tryz.ty16 : TyOk Tryz.prog 16 ⟨.ptr 192, 1, 8, [.pointer none]⟩ := ⟨⟨Tryz.t16, _, by kernel_rfl, rfl, rfl, rfl, rfl, rfl, rfl⟩, ⟨_, Tryz.underlying16, rfl⟩⟩
theorem Tryz.ty17 : TyOk Tryz.prog 17 ⟨.ptr 201, 1, 8, [.pointer none]⟩ := ⟨⟨Tryz.t17, _, by kernel_rfl, rfl, rfl, rfl, rfl, rfl, rfl⟩, ⟨_, Tryz.underlying17, rfl⟩⟩
theorem Tryz.ty18 : TyOk Tryz.prog 18 ⟨.struct [(0, 17)], 1, 8, [.pointer none]⟩ := ⟨⟨Tryz.t18, _, by kernel_rfl, rfl, rfl, rfl, rfl, rfl, rfl⟩, ⟨_, Tryz.underlying18, ⟨_, rfl, rfl⟩⟩⟩
theorem Tryz.ty19 : TyOk Tryz.prog 19 ⟨.struct [(0, 17)], 1, 8, [.pointer none]⟩ := ⟨⟨Tryz.t19, _, by kernel_rfl, rfl, rfl, rfl, rfl, rfl, rfl⟩, ⟨_, Tryz.underlying19, ⟨_, rfl, rfl⟩⟩⟩
theorem Tryz.ty20 : TyOk Tryz.prog 20 ⟨.iface, 1, 16, [.nilIface]⟩ := ⟨⟨Tryz.t20, _, by kernel_rfl, rfl, rfl, rfl, rfl, rfl, rfl⟩, ⟨_, Tryz.underlying20, ⟨_, rfl⟩⟩⟩
theorem Tryz.ty21 : TyOk Tryz.prog 21 ⟨.int .i32, 1, 4, [.int .i32 0]⟩ := ⟨⟨Tryz.t21, _, by kernel_rfl, rfl, rfl, rfl, rfl, rfl, rfl⟩, ⟨_, Tryz.underlying21, rfl⟩⟩
theorem Tryz.ty22 : TyOk Tryz.prog 22 ⟨.slice 62, 1, 24, [.slice none 0 0]⟩ := ⟨⟨Tryz.t22, _, by kernel_rfl, rfl, rfl, rfl, rfl, rfl, rfl⟩, ⟨_, Tryz.underlying22, rfl⟩⟩
theorem Tryz.ty23 : TyOk Tryz.prog 23 ⟨.func, 1, 8, [.nilFunc]⟩ := ⟨⟨Tryz.t23, _, by kernel_rfl, rfl, rfl, rfl, rfl, rfl, rfl⟩, ⟨_, Tryz.underlying23, ⟨_, _, _, rfl⟩⟩⟩
theorem Tryz.ty24 : TyOk Tryz.prog 24 ⟨.struct [(0, 3), (1, 3), (2, 3), (3, 3), (4, 3), (5, 3)], 6, 48, [.int .i64 0, .int .i64 0, .int .i64 0, .int .i64 0, .int .i64 0, .int .i64 0]⟩ := ⟨⟨Tryz.t24, _, by kernel_rfl, rfl, rfl, rfl, rfl, rfl, rfl⟩, ⟨_, Tryz.underlying24, ⟨_, rfl, rfl⟩⟩⟩
theorem Tryz.ty25 : TyOk Tryz.prog 25 ⟨.struct [(0, 3), (1, 3), (2, 3), (3, 3), (4, 3), (5, 3)], 6, 48, [.int .i64 0, .int .i64 0, .int .i64 0, .int .i64 0, .int .i64 0, .int .i64 0]⟩ := ⟨⟨Tryz.t25, _, by kernel_rfl, rfl, rfl, rfl, rfl, rfl, rfl⟩, ⟨_, Tryz.underlying25, ⟨_, rfl, rfl⟩⟩⟩
theorem Tryz.ty27 : TyOk Tryz.prog 27 ⟨.func, 1, 8, [.nilFunc]⟩ := ⟨⟨Tryz.t27, _, by kernel_rfl, rfl, rfl, rfl, rfl, rfl, rfl⟩, ⟨_, Tryz.underlying27, ⟨_, _, _, rfl⟩⟩⟩
theorem Tryz.ty28 : TyOk Tryz.prog 28 ⟨.func, 1, 8, [.nilFunc]⟩ := ⟨⟨Tryz.t28, _, by kernel_rfl, rfl, rfl, rfl, rfl, rfl, rfl⟩, ⟨_, Tryz.underlying28, ⟨_, _, _, rfl⟩⟩⟩
theorem Tryz.ty29 : TyOk Tryz.prog 29 ⟨.slice 25, 1, 24, [.slice none 0 0]⟩ := ⟨⟨Tryz.t29, _, by kernel_rfl, rfl, rfl, rfl, rfl, rfl, rfl⟩, ⟨_, Tryz.underlying29, rfl⟩⟩
theorem Tryz.ty30 : TyOk Tryz.prog 30 ⟨.func, 1, 8, [.nilFunc]⟩ := ⟨⟨Tryz.t30, _, by kernel_rfl, rfl, rfl, rfl, rfl, rfl, rfl⟩, ⟨_, Tryz.underlying30, ⟨_, _, _, rfl⟩⟩⟩
theorem Tryz.ty31 : TyOk Tryz.prog 31 ⟨.func, 1, 8, [.nilFunc]⟩ := ⟨⟨Tryz.t31, _, by kernel_rfl, rfl, rfl, rfl, rfl, rfl, rfl⟩, ⟨_, Tryz.underlying31, ⟨_, _, _, rfl⟩⟩⟩
theorem Tryz.ty32 : TyOk Tryz.prog 32 ⟨.func, 1, 8, [.nilFunc]⟩ := ⟨⟨Tryz.t32, _, by kernel_rfl, rfl, rfl, rfl, rfl, rfl, rfl⟩, ⟨_, Tryz.underlying32, ⟨_, _, _, rfl⟩⟩⟩
theorem Tryz.ty33 : TyOk Tryz.prog 33 ⟨.slice 60, 1, 24, [.slice none 0 0]⟩ := ⟨⟨Tryz.t33, _, by kernel_rfl, rfl, rfl, rfl, rfl, rfl, rfl⟩, ⟨_, Tryz.underlying33, rfl⟩⟩
theorem Tryz.ty34 : TyOk Tryz.prog 34 ⟨.func, 1, 8, [.nilFunc]⟩ := ⟨⟨Tryz.t34, _, by kernel_rfl, rfl, rfl, rfl, rfl, rfl, rfl⟩, ⟨_, Tryz.underlying34, ⟨_, _, _, rfl⟩⟩⟩
theorem Tryz.ty35 : TyOk Tryz.prog 35 ⟨.func, 1, 8, [.nilFunc]⟩ := ⟨⟨Tryz.t35, _, by kernel_rfl, rfl, rfl, rfl, rfl, rfl, rfl⟩, ⟨_, Tryz.underlying35, ⟨_, _, _, rfl⟩⟩⟩
theorem Tryz.ty36 : TyOk Tryz.prog 36 ⟨.slice 54, 1, 24, [.slice none 0 0]⟩ := ⟨⟨Tryz.t36, _, by kernel_rfl, rfl, rfl, rfl, rfl, rfl, rfl⟩, ⟨_, Tryz.underlying36, rfl⟩⟩
theorem Tryz.ty37 : TyOk Tryz.prog 37 ⟨.func, 1, 8, [.nilFunc]⟩ := ⟨⟨Tryz.t37, _, by kernel_rfl, rfl, rfl, rfl, rfl, rfl, rfl⟩, ⟨_, Tryz.underlying37, ⟨_, _, _, rfl⟩⟩⟩
theorem Tryz.ty38 : TyOk Tryz.prog 38 ⟨.func, 1, 8, [.nilFunc]⟩ := ⟨⟨Tryz.t38, _, by kernel_rfl, rfl, rfl, rfl, rfl, rfl, rfl⟩, ⟨_, Tryz.underlying38, ⟨_, _, _, rfl⟩⟩⟩
theorem Tryz.ty39 : TyOk Tryz.prog 39 ⟨.struct [(0, 3), (1, 3), (2, 3), (3, 3), (4, 3), (5, 3), (6, 3), (7, 3)], 8, 64, [.int .i64 0, .int .i64 0, .int .i64 0, .int .i64 0, .int .i64 0, .int .i64 0, .int .i64 0, .int .i64 0]⟩ := ⟨⟨Tryz.t39, _, by kernel_rfl, rfl, rfl, rfl, rfl, rfl, rfl⟩, ⟨_, Tryz.underlying39, ⟨_, rfl, rfl⟩⟩⟩
theorem Tryz.ty40 : TyOk Tryz.prog 40 ⟨.struct [(0, 3), (1, 3), (2, 3), (3, 3), (4, 3), (5, 3), (6, 3), (7, 3)], 8, 64, [.int .i64 0, .int .i64 0, .int .i64 0, .int .i64 0, .int .i64 0, .int .i64 0, .int .i64 0, .int .i64 0]⟩ := ⟨⟨Tryz.t40, _, by kernel_rfl, rfl, rfl, rfl, rfl, rfl, rfl⟩, ⟨_, Tryz.underlying40, ⟨_, rfl, rfl⟩⟩⟩
theorem Tryz.ty41 : TyOk Tryz.prog 41 ⟨.struct [(0, 3), (1, 3), (2, 3), (3, 3)], 4, 32, [.int .i64 0, .int .i64 0, .int .i64 0, .int .i64 0]⟩ := ⟨⟨Tryz.t41, _, by kernel_rfl, rfl, rfl, rfl, rfl, rfl, rfl⟩, ⟨_, Tryz.underlying41, ⟨_, rfl, rfl⟩⟩⟩
theorem Tryz.ty42 : TyOk Tryz.prog 42 ⟨.struct [(0, 3), (1, 3), (2, 3), (3, 3)], 4, 32, [.int .i64 0, .int .i64 0, .int .i64 0, .int .i64 0]⟩ := ⟨⟨Tryz.t42, _, by kernel_rfl, rfl, rfl, rfl, rfl, rfl, rfl⟩, ⟨_, Tryz.underlying42, ⟨_, rfl, rfl⟩⟩⟩
theorem Tryz.ty43 : TyOk Tryz.prog 43 ⟨.struct [(0, 3), (1, 3), (2, 3), (3, 3), (4, 3)], 5, 40, [.int .i64 0, .int .i64 0, .int .i64 0, .int .i64 0, .int .i64 0]⟩ := ⟨⟨Tryz.t43, _, by kernel_rfl, rfl, rfl, rfl, rfl, rfl, rfl⟩, ⟨_, Tryz.underlying43, ⟨_, rfl, rfl⟩⟩⟩
theorem Tryz.ty44 : TyOk Tryz.prog 44 ⟨.struct [(0, 3), (1, 3), (2, 3), (3, 3), (4, 3)], 5, 40, [.int .i64 0, .int .i64 0, .int .i64 0, .int .i64 0, .int .i64 0]⟩ := ⟨⟨Tryz.t44, _, by kernel_rfl, rfl, rfl, rfl, rfl, rfl, rfl⟩, ⟨_, Tryz.underlying44, ⟨_, rfl, rfl⟩⟩⟩
theorem Tryz.ty45 : TyOk Tryz.prog 45 ⟨.struct [(0, 3), (1, 3), (2, 3), (3, 3), (4, 3), (5, 3), (6, 3), (7, 3)], 8, 64, [.int .i64 0, .int .i64 0, .int .i64 0, .int .i64 0, .int .i64 0, .int .i64 0, .int .i64 0, .int .i64 0]⟩ := ⟨⟨Tryz.t45, _, by kernel_rfl, rfl, rfl, rfl, rfl, rfl, rfl⟩, ⟨_, Tryz.underlying45, ⟨_, rfl, rfl⟩⟩⟩
theorem Tryz.ty46 : TyOk Tryz.prog 46 ⟨.struct [(0, 3), (1, 3), (2, 3), (3, 3), (4, 3), (5, 3), (6, 3), (7, 3)], 8, 64, [.int .i64 0, .int .i64 0, .int .i64 0, .int .i64 0, .int .i64 0, .int .i64 0, .int .i64 0, .int .i64 0]⟩ := ⟨⟨Tryz.t46, _, by kernel_rfl, rfl, rfl, rfl, rfl, rfl, rfl⟩, ⟨_, Tryz.underlying46, ⟨_, rfl, rfl⟩⟩⟩
theorem Tryz.ty47 : TyOk Tryz.prog 47 ⟨.struct [(0, 3), (1, 3), (2, 3), (3, 3)], 4, 32, [.int .i64 0, .int .i64 0, .int .i64 0, .int .i64 0]⟩ := ⟨⟨Tryz.t47, _, by kernel_rfl, rfl, rfl, rfl, rfl, rfl, rfl⟩, ⟨_, Tryz.underlying47, ⟨_, rfl, rfl⟩⟩⟩
theorem Tryz.ty48 : TyOk Tryz.prog 48 ⟨.struct [(0, 3), (1, 3), (2, 3), (3, 3)], 4, 32, [.int .i64 0, .int .i64 0, .int .i64 0, .int .i64 0]⟩ := ⟨⟨Tryz.t48, _, by kernel_rfl, rfl, rfl, rfl, rfl, rfl, rfl⟩, ⟨_, Tryz.underlying48, ⟨_, rfl, rfl⟩⟩⟩
theorem Tryz.ty49 : TyOk Tryz.prog 49 ⟨.struct [(0, 3), (1, 3), (2, 3), (3, 3)], 4, 32, [.int .i64 0, .int .i64 0, .int .i64 0, .int .i64 0]⟩ := ⟨⟨Tryz.t49, _, by kernel_rfl, rfl, rfl, rfl, rfl, rfl, rfl⟩, ⟨_, Tryz.underlying49, ⟨_, rfl, rfl⟩⟩⟩
theorem Tryz.ty50 : TyOk Tryz.prog 50 ⟨.struct [(0, 3), (1, 3), (2, 3), (3, 3)], 4, 32, [.int .i64 0, .int .i64 0, .int .i64 0, .int .i64 0]⟩ := ⟨⟨Tryz.t50, _, by kernel_rfl, rfl, rfl, rfl, rfl, rfl, rfl⟩, ⟨_, Tryz.underlying50, ⟨_, rfl, rfl⟩⟩⟩
theorem Tryz.ty51 : TyOk Tryz.prog 51 ⟨.struct [(0, 3), (1, 3)], 2, 16, [.int .i64 0, .int .i64 0]⟩ := ⟨⟨Tryz.t51, _, by kernel_rfl, rfl, rfl, rfl, rfl, rfl, rfl⟩, ⟨_, Tryz.underlying51, ⟨_, rfl, rfl⟩⟩⟩
theorem Tryz.ty52 : TyOk Tryz.prog 52 ⟨.struct [(0, 3), (1, 3)], 2, 16, [.int .i64 0, .int .i64 0]⟩ := ⟨⟨Tryz.t52, _, by kernel_rfl, rfl, rfl, rfl, rfl, rfl, rfl⟩, ⟨_, Tryz.underlying52, ⟨_, rfl, rfl⟩⟩⟩
theorem Tryz.ty53 : TyOk Tryz.prog 53 ⟨.struct [(0, 3), (1, 3), (2, 3), (3, 3)], 4, 32, [.int .i64 0, .int .i64 0, .int .i64 0, .int .i64 0]⟩ := ⟨⟨Tryz.t53, _, by kernel_rfl, rfl, rfl, rfl, rfl, rfl, rfl⟩, ⟨_, Tryz.underlying53, ⟨_, rfl, rfl⟩⟩⟩
theorem Tryz.ty54 : TyOk Tryz.prog 54 ⟨.struct [(0, 3), (1, 3), (2, 3), (3, 3)], 4, 32, [.int .i64 0, .int .i64 0, .int .i64 0, .int .i64 0]⟩ := ⟨⟨Tryz.t54, _, by kernel_rfl, rfl, rfl, rfl, rfl, rfl, rfl⟩, ⟨_, Tryz.underlying54, ⟨_, rfl, rfl⟩⟩⟩
theorem Tryz.ty55 : TyOk Tryz.prog 55 ⟨.struct [(0, 3), (1, 3), (2, 3), (3, 3)], 4, 32, [.int .i64 0, .int .i64 0, .int .i64 0, .int .i64 0]⟩ := ⟨⟨Tryz.t55, _, by kernel_rfl, rfl, rfl, rfl, rfl, rfl, rfl⟩, ⟨_, Tryz.underlying55, ⟨_, rfl, rfl⟩⟩⟩
theorem Tryz.ty56 : TyOk Tryz.prog 56 ⟨.struct [(0, 3), (1, 3), (2, 3), (3, 3)], 4, 32, [.int .i64 0, .int .i64 0, .int .i64 0, .int .i64 0]⟩ := ⟨⟨Tryz.t56, _, by kernel_rfl, rfl, rfl, rfl, rfl, rfl, rfl⟩, ⟨_, Tryz.underlying56, ⟨_, rfl, rfl⟩⟩⟩
theorem Tryz.ty57 : TyOk Tryz.prog 57 ⟨.struct [(0, 3), (1, 4)], 2, 16, [.int .i64 0, .bool false]⟩ := ⟨⟨Tryz.t57, _, by kernel_rfl, rfl, rfl, rfl, rfl, rfl, rfl⟩, ⟨_, Tryz.underlying57, ⟨_, rfl, rfl⟩⟩⟩
theorem Tryz.ty58 : TyOk Tryz.prog 58 ⟨.struct [(0, 3), (1, 4)], 2, 16, [.int .i64 0, .bool false]⟩ := ⟨⟨Tryz.t58, _, by kernel_rfl, rfl, rfl, rfl, rfl, rfl, rfl⟩, ⟨_, Tryz.underlying58, ⟨_, rfl, rfl⟩⟩⟩
theorem Tryz.ty59 : TyOk Tryz.prog 59 ⟨.struct [(0, 3), (1, 3)], 2, 16, [.int .i64 0, .int .i64 0]⟩ := ⟨⟨Tryz.t59, _, by kernel_rfl, rfl, rfl, rfl, rfl, rfl, rfl⟩, ⟨_, Tryz.underlying59, ⟨_, rfl, rfl⟩⟩⟩
theorem Tryz.ty60 : TyOk Tryz.prog 60 ⟨.struct [(0, 3), (1, 3)], 2, 16, [.int .i64 0, .int .i64 0]⟩ := ⟨⟨Tryz.t60, _, by kernel_rfl, rfl, rfl, rfl, rfl, rfl, rfl⟩, ⟨_, Tryz.underlying60, ⟨_, rfl, rfl⟩⟩⟩
theorem Tryz.ty61 : TyOk Tryz.prog 61 ⟨.struct [(0, 3), (1, 3), (2, 3), (3, 3), (4, 40), (12, 42), (16, 44), (21, 46), (29, 48), (33, 50), (37, 52), (39, 54), (43, 56), (47, 25), (53, 58), (55, 60)], 57, 456, [.int .i64 0, .int .i64 0, .int .i64 0, .int .i64 0, .int .i64 0, .int .i64 0, .int .i64 0, .int .i64 0, .int .i64 0, .int .i64 0, .int .i64 0, .int .i64 0, .int .i64 0, .int .i64 0, .int .i64 0, .int .i64 0, .int .i64 0, .int .i64 0, .int .i64 0, .int .i64 0, .int .i64 0, .int .i64 0, .int .i64 0, .int .i64 0, .int .i64 0, .int .i64 0, .int .i64 0, .int .i64 0, .int .i64 0, .int .i64 0, .int .i64 0, .int .i64 0, .int .i64 0, .int .i64 0, .int .i64 0, .int .i64 0, .int .i64 0, .int .i64 0, .int .i64 0, .int .i64 0, .int .i64 0, .int .i64 0, .int .i64 0, .int .i64 0, .int .i64 0, .int .i64 0, .int .i64 0, .int .i64 0, .int .i64 0, .int .i64 0, .int .i64 0, .int .i64 0, .int .i64 0, .int .i64 0, .bool false, .int .i64 0, .int .i64 0]⟩ := ⟨⟨Tryz.t61, _, by kernel_rfl, rfl, rfl, rfl, rfl, rfl, rfl⟩, ⟨_, Tryz.underlying61, ⟨_, rfl, rfl⟩⟩⟩
theorem Tryz.ty62 : TyOk Tryz.prog 62 ⟨.struct [(0, 3), (1, 3), (2, 3), (3, 3), (4, 40), (12, 42), (16, 44), (21, 46), (29, 48), (33, 50), (37, 52), (39, 54), (43, 56), (47, 25), (53, 58), (55, 60)], 57, 456, [.int .i64 0, .int .i64 0, .int .i64 0, .int .i64 0, .int .i64 0, .int .i64 0, .int .i64 0, .int .i64 0, .int .i64 0, .int .i64 0, .int .i64 0, .int .i64 0, .int .i64 0, .int .i64 0, .int .i64 0, .int .i64 0, .int .i64 0, .int .i64 0, .int .i64 0, .int .i64 0, .int .i64 0, .int .i64 0, .int .i64 0, .int .i64 0, .int .i64 0, .int .i64 0, .int .i64 0, .int .i64 0, .int .i64 0, .int .i64 0, .int .i64 0, .int .i64 0, .int .i64 0, .int .i64 0, .int .i64 0, .int .i64 0, .int .i64 0, .int .i64 0, .int .i64 0, .int .i64 0, .int .i64 0, .int .i64 0, .int .i64 0, .int .i64 0, .int .i64 0, .int .i64 0, .int .i64 0, .int .i64 0, .int .i64 0, .int .i64 0, .int .i64 0, .int .i64 0, .int .i64 0, .int .i64 0, .bool false, .int .i64 0, .int .i64 0]⟩ := ⟨⟨Tryz.t62, _, by kernel_rfl, rfl, rfl, rfl, rfl, rfl, rfl⟩, ⟨_, Tryz.underlying62, ⟨_, rfl, rfl⟩⟩⟩
theorem Tryz.ty63 : TyOk Tryz.prog 63 ⟨.func, 1, 8, [.nilFunc]⟩ := ⟨⟨Tryz.t63, _, by kernel_rfl, rfl, rfl, rfl, rfl, rfl, rfl⟩, ⟨_, Tryz.underlying63, ⟨_, _, _, rfl⟩⟩⟩
theorem Tryz.ty64 : TyOk Tryz.prog 64 ⟨.ptr 75, 1, 8, [.pointer none]⟩ := ⟨⟨Tryz.t64, _, by kernel_rfl, rfl, rfl, rfl, rfl, rfl, rfl⟩, ⟨_, Tryz.underlying64, rfl⟩⟩
theorem Tryz.ty65 : TyOk Tryz.prog 65 ⟨.func, 1, 8, [.nilFunc]⟩ := ⟨⟨Tryz.t65, _, by kernel_rfl, rfl, rfl, rfl, rfl, rfl, rfl⟩, ⟨_, Tryz.underlying65, ⟨_, _, _, rfl⟩⟩⟩
theorem Tryz.ty66 : TyOk Tryz.prog 66 ⟨.func, 1, 8, [.nilFunc]⟩ := ⟨⟨Tryz.t66, _, by kernel_rfl, rfl, rfl, rfl, rfl, rfl, rfl⟩, ⟨_, Tryz.underlying66, ⟨_, _, _, rfl⟩⟩⟩
theorem Tryz.ty67 : TyOk Tryz.prog 67 ⟨.func, 1, 8, [.nilFunc]⟩ := ⟨⟨Tryz.t67, _, by kernel_rfl, rfl, rfl, rfl, rfl, rfl, rfl⟩, ⟨_, Tryz.underlying67, ⟨_, _, _, rfl⟩⟩⟩
theorem Tryz.ty68 : TyOk Tryz.prog 68 ⟨.func, 1, 8, [.nilFunc]⟩ := ⟨⟨Tryz.t68, _, by kernel_rfl, rfl, rfl, rfl, rfl, rfl, rfl⟩, ⟨_, Tryz.underlying68, ⟨_, _, _, rfl⟩⟩⟩
theorem Tryz.ty69 : TyOk Tryz.prog 69 ⟨.slice 64, 1, 24, [.slice none 0 0]⟩ := ⟨⟨Tryz.t69, _, by kernel_rfl, rfl, rfl, rfl, rfl, rfl, rfl⟩, ⟨_, Tryz.underlying69, rfl⟩⟩
theorem Tryz.ty70 : TyOk Tryz.prog 70 ⟨.func, 1, 8, [.nilFunc]⟩ := ⟨⟨Tryz.t70, _, by kernel_rfl, rfl, rfl, rfl, rfl, rfl, rfl⟩, ⟨_, Tryz.underlying70, ⟨_, _, _, rfl⟩⟩⟩
theorem Tryz.ty71 : TyOk Tryz.prog 71 ⟨.slice 3, 1, 24, [.slice none 0 0]⟩ := ⟨⟨Tryz.t71, _, by kernel_rfl, rfl, rfl, rfl, rfl, rfl, rfl⟩, ⟨_, Tryz.underlying71, rfl⟩⟩
theorem Tryz.ty72 : TyOk Tryz.prog 72 ⟨.func, 1, 8, [.nilFunc]⟩ := ⟨⟨Tryz.t72, _, by kernel_rfl, rfl, rfl, rfl, rfl, rfl, rfl⟩, ⟨_, Tryz.underlying72, ⟨_, _, _, rfl⟩⟩⟩
theorem Tryz.ty73 : TyOk Tryz.prog 73 ⟨.array 3 22, 3, 72, [.slice none 0 0, .slice none 0 0, .slice none 0 0]⟩ := ⟨⟨Tryz.t73, _, by kernel_rfl, rfl, rfl, rfl, rfl, rfl, rfl⟩, ⟨_, Tryz.underlying73, rfl⟩⟩
theorem Tryz.ty74 : TyOk Tryz.prog 74 ⟨.struct [(0, 3), (1, 73), (4, 36), (5, 4)], 6, 112, [.int .i64 0, .slice none 0 0, .slice none 0 0, .slice none 0 0, .slice none 0 0, .bool false]⟩ := ⟨⟨Tryz.t74, _, by kernel_rfl, rfl, rfl, rfl, rfl, rfl, rfl⟩, ⟨_, Tryz.underlying74, ⟨_, rfl, rfl⟩⟩⟩
theorem Tryz.ty75 : TyOk Tryz.prog 75 ⟨.struct [(0, 3), (1, 73), (4, 36), (5, 4)], 6, 112, [.int .i64 0, .slice none 0 0, .slice none 0 0, .slice none 0 0, .slice none 0 0, .bool false]⟩ := ⟨⟨Tryz.t75, _, by kernel_rfl, rfl, rfl, rfl, rfl, rfl, rfl⟩, ⟨_, Tryz.underlying75, ⟨_, rfl, rfl⟩⟩⟩
theorem Tryz.ty76 : TyOk Tryz.prog 76 ⟨.func, 1, 8, [.nilFunc]⟩ := ⟨⟨Tryz.t76, _, by kernel_rfl, rfl, rfl, rfl, rfl, rfl, rfl⟩, ⟨_, Tryz.underlying76, ⟨_, _, _, rfl⟩⟩⟩
theorem Tryz.ty77 : TyOk Tryz.prog 77 ⟨.func, 1, 8, [.nilFunc]⟩ := ⟨⟨Tryz.t77, _, by kernel_rfl, rfl, rfl, rfl, rfl, rfl, rfl⟩, ⟨_, Tryz.underlying77, ⟨_, _, _, rfl⟩⟩⟩
theorem Tryz.ty78 : TyOk Tryz.prog 78 ⟨.func, 1, 8, [.nilFunc]⟩ := ⟨⟨Tryz.t78, _, by kernel_rfl, rfl, rfl, rfl, rfl, rfl, rfl⟩, ⟨_, Tryz.underlying78, ⟨_, _, _, rfl⟩⟩⟩
theorem Tryz.ty79 : TyOk Tryz.prog 79 ⟨.func, 1, 8, [.nilFunc]⟩ := ⟨⟨Tryz.t79, _, by kernel_rfl, rfl, rfl, rfl, rfl, rfl, rfl⟩, ⟨_, Tryz.underlying79, ⟨_, _, _, rfl⟩⟩⟩
theorem Tryz.ty80 : TyOk Tryz.prog 80 ⟨.func, 1, 8, [.nilFunc]⟩ := ⟨⟨Tryz.t80, _, by kernel_rfl, rfl, rfl, rfl, rfl, rfl, rfl⟩, ⟨_, Tryz.underlying80, ⟨_, _, _, rfl⟩⟩⟩
theorem Tryz.ty81 : TyOk Tryz.prog 81 ⟨.int .i64, 1, 8, [.int .i64 0]⟩ := ⟨⟨Tryz.t81, _, by kernel_rfl, rfl, rfl, rfl, rfl, rfl, rfl⟩, ⟨_, Tryz.underlying81, rfl⟩⟩
theorem Tryz.ty82 : TyOk Tryz.prog 82 ⟨.func, 1, 8, [.nilFunc]⟩ := ⟨⟨Tryz.t82, _, by kernel_rfl, rfl, rfl, rfl, rfl, rfl, rfl⟩, ⟨_, Tryz.underlying82, ⟨_, _, _, rfl⟩⟩⟩
theorem Tryz.ty83 : TyOk Tryz.prog 83 ⟨.map 3 64, 1, 8, [.map none]⟩ := ⟨⟨Tryz.t83, _, by kernel_rfl, rfl, rfl, rfl, rfl, rfl, rfl⟩, ⟨_, Tryz.underlying83, rfl⟩⟩
theorem Tryz.ty84 : TyOk Tryz.prog 84 ⟨.func, 1, 8, [.nilFunc]⟩ := ⟨⟨Tryz.t84, _, by kernel_rfl, rfl, rfl, rfl, rfl, rfl, rfl⟩, ⟨_, Tryz.underlying84, ⟨_, _, _, rfl⟩⟩⟩
theorem Tryz.ty85 : TyOk Tryz.prog 85 ⟨.func, 1, 8, [.nilFunc]⟩ := ⟨⟨Tryz.t85, _, by kernel_rfl, rfl, rfl, rfl, rfl, rfl, rfl⟩, ⟨_, Tryz.underlying85, ⟨_, _, _, rfl⟩⟩⟩
theorem Tryz.ty86 : TyOk Tryz.prog 86 ⟨.func, 1, 8, [.nilFunc]⟩ := ⟨⟨Tryz.t86, _, by kernel_rfl, rfl, rfl, rfl, rfl, rfl, rfl⟩, ⟨_, Tryz.underlying86, ⟨_, _, _, rfl⟩⟩⟩
theorem Tryz.ty87 : TyOk Tryz.prog 87 ⟨.func, 1, 8, [.nilFunc]⟩ := ⟨⟨Tryz.t87, _, by kernel_rfl, rfl, rfl, rfl, rfl, rfl, rfl⟩, ⟨_, Tryz.underlying87, ⟨_, _, _, rfl⟩⟩⟩
theorem Tryz.ty88 : TyOk Tryz.prog 88 ⟨.func, 1, 8, [.nilFunc]⟩ := ⟨⟨Tryz.t88, _, by kernel_rfl, rfl, rfl, rfl, rfl, rfl, rfl⟩, ⟨_, Tryz.underlying88, ⟨_, _, _, rfl⟩⟩⟩
theorem Tryz.ty89 : TyOk Tryz.prog 89 ⟨.func, 1, 8, [.nilFunc]⟩ := ⟨⟨Tryz.t89, _, by kernel_rfl, rfl, rfl, rfl, rfl, rfl, rfl⟩, ⟨_, Tryz.underlying89, ⟨_, _, _, rfl⟩⟩⟩
theorem Tryz.ty90 : TyOk Tryz.prog 90 ⟨.func, 1, 8, [.nilFunc]⟩ := ⟨⟨Tryz.t90, _, by kernel_rfl, rfl, rfl, rfl, rfl, rfl, rfl⟩, ⟨_, Tryz.underlying90, ⟨_, _, _, rfl⟩⟩⟩
theorem Tryz.ty91 : TyOk Tryz.prog 91 ⟨.func, 1, 8, [.nilFunc]⟩ := ⟨⟨Tryz.t91, _, by kernel_rfl, rfl, rfl, rfl, rfl, rfl, rfl⟩, ⟨_, Tryz.underlying91, ⟨_, _, _, rfl⟩⟩⟩
theorem Tryz.ty92 : TyOk Tryz.prog 92 ⟨.slice 5, 1, 24, [.slice none 0 0]⟩ := ⟨⟨Tryz.t92, _, by kernel_rfl, rfl, rfl, rfl, rfl, rfl, rfl⟩, ⟨_, Tryz.underlying92, rfl⟩⟩
theorem Tryz.ty94 : TyOk Tryz.prog 94 ⟨.func, 1, 8, [.nilFunc]⟩ := ⟨⟨Tryz.t94, _, by kernel_rfl, rfl, rfl, rfl, rfl, rfl, rfl⟩, ⟨_, Tryz.underlying94, ⟨_, _, _, rfl⟩⟩⟩
theorem Tryz.ty95 : TyOk Tryz.prog 95 ⟨.func, 1, 8, [.nilFunc]⟩ := ⟨⟨Tryz.t95, _, by kernel_rfl, rfl, rfl, rfl, rfl, rfl, rfl⟩, ⟨_, Tryz.underlying95, ⟨_, _, _, rfl⟩⟩⟩
theorem Tryz.ty96 : TyOk Tryz.prog 96 ⟨.func, 1, 8, [.nilFunc]⟩ := ⟨⟨Tryz.t96, _, by kernel_rfl, rfl, rfl, rfl, rfl, rfl, rfl⟩, ⟨_, Tryz.underlying96, ⟨_, _, _, rfl⟩⟩⟩
theorem Tryz.ty97 : TyOk Tryz.prog 97 ⟨.func, 1, 8, [.nilFunc]⟩ := ⟨⟨Tryz.t97, _, by kernel_rfl, rfl, rfl, rfl, rfl, rfl, rfl⟩, ⟨_, Tryz.underlying97, ⟨_, _, _, rfl⟩⟩⟩
theorem Tryz.ty98 : TyOk Tryz.prog 98 ⟨.func, 1, 8, [.nilFunc]⟩ := ⟨⟨Tryz.t98, _, by kernel_rfl, rfl, rfl, rfl, rfl, rfl, rfl⟩, ⟨_, Tryz.underlying98, ⟨_, _, _, rfl⟩⟩⟩
theorem Tryz.ty99 : TyOk Tryz.prog 99 ⟨.func, 1, 8, [.nilFunc]⟩ := ⟨⟨Tryz.t99, _, by kernel_rfl, rfl, rfl, rfl, rfl, rfl, rfl⟩, ⟨_, Tryz.underlying99, ⟨_, _, _, rfl⟩⟩⟩
theorem Tryz.ty101 : TyOk Tryz.prog 101 ⟨.func, 1, 8, [.nilFunc]⟩ := ⟨⟨Tryz.t101, _, by kernel_rfl, rfl, rfl, rfl, rfl, rfl, rfl⟩, ⟨_, Tryz.underlying101, ⟨_, _, _, rfl⟩⟩⟩
theorem Tryz.ty102 : TyOk Tryz.prog 102 ⟨.func, 1, 8, [.nilFunc]⟩ := ⟨⟨Tryz.t102, _, by kernel_rfl, rfl, rfl, rfl, rfl, rfl, rfl⟩, ⟨_, Tryz.underlying102, ⟨_, _, _, rfl⟩⟩⟩
theorem Tryz.ty103 : TyOk Tryz.prog 103 ⟨.func, 1, 8, [.nilFunc]⟩ := ⟨⟨Tryz.t103, _, by kernel_rfl, rfl, rfl, rfl, rfl, rfl, rfl⟩, ⟨_, Tryz.underlying103, ⟨_, _, _, rfl⟩⟩⟩
theorem Tryz.ty104 : TyOk Tryz.prog 104 ⟨.func, 1, 8, [.nilFunc]⟩ := ⟨⟨Tryz.t104, _, by kernel_rfl, rfl, rfl, rfl, rfl, rfl, rfl⟩, ⟨_, Tryz.underlying104, ⟨_, _, _, rfl⟩⟩⟩
theorem Tryz.ty105 : TyOk Tryz.prog 105 ⟨.func, 1, 8, [.nilFunc]⟩ := ⟨⟨Tryz.t105, _, by kernel_rfl, rfl, rfl, rfl, rfl, rfl, rfl⟩, ⟨_, Tryz.underlying105, ⟨_, _, _, rfl⟩⟩⟩
theorem Tryz.ty106 : TyOk Tryz.prog 106 ⟨.func, 1, 8, [.nilFunc]⟩ := ⟨⟨Tryz.t106, _, by kernel_rfl, rfl, rfl, rfl, rfl, rfl, rfl⟩, ⟨_, Tryz.underlying106, ⟨_, _, _, rfl⟩⟩⟩
theorem Tryz.ty107 : TyOk Tryz.prog 107 ⟨.func, 1, 8, [.nilFunc]⟩ := ⟨⟨Tryz.t107, _, by kernel_rfl, rfl, rfl, rfl, rfl, rfl, rfl⟩, ⟨_, Tryz.underlying107, ⟨_, _, _, rfl⟩⟩⟩
theorem Tryz.ty108 : TyOk Tryz.prog 108 ⟨.int .u64, 1, 8, [.int .u64 0]⟩ := ⟨⟨Tryz.t108, _, by kernel_rfl, rfl, rfl, rfl, rfl, rfl, rfl⟩, ⟨_, Tryz.underlying108, rfl⟩⟩
theorem Tryz.ty109 : TyOk Tryz.prog 109 ⟨.slice 111, 1, 24, [.slice none 0 0]⟩ := ⟨⟨Tryz.t109, _, by kernel_rfl, rfl, rfl, rfl, rfl, rfl, rfl⟩, ⟨_, Tryz.underlying109, rfl⟩⟩
theorem Tryz.ty110 : TyOk Tryz.prog 110 ⟨.struct [(0, 3), (1, 3), (2, 9), (3, 109)], 4, 56, [.int .i64 0, .int .i64 0, .string { data := #[] }, .slice none 0 0]⟩ := ⟨⟨Tryz.t110, _, by kernel_rfl, rfl, rfl, rfl, rfl, rfl, rfl⟩, ⟨_, Tryz.underlying110, ⟨_, rfl, rfl⟩⟩⟩
theorem Tryz.ty111 : TyOk Tryz.prog 111 ⟨.struct [(0, 3), (1, 3), (2, 9), (3, 109)], 4, 56, [.int .i64 0, .int .i64 0, .string { data := #[] }, .slice none 0 0]⟩ := ⟨⟨Tryz.t111, _, by kernel_rfl, rfl, rfl, rfl, rfl, rfl, rfl⟩, ⟨_, Tryz.underlying111, ⟨_, rfl, rfl⟩⟩⟩
theorem Tryz.ty112 : TyOk Tryz.prog 112 ⟨.func, 1, 8, [.nilFunc]⟩ := ⟨⟨Tryz.t112, _, by kernel_rfl, rfl, rfl, rfl, rfl, rfl, rfl⟩, ⟨_, Tryz.underlying112, ⟨_, _, _, rfl⟩⟩⟩
theorem Tryz.ty113 : TyOk Tryz.prog 113 ⟨.func, 1, 8, [.nilFunc]⟩ := ⟨⟨Tryz.t113, _, by kernel_rfl, rfl, rfl, rfl, rfl, rfl, rfl⟩, ⟨_, Tryz.underlying113, ⟨_, _, _, rfl⟩⟩⟩
theorem Tryz.ty114 : TyOk Tryz.prog 114 ⟨.func, 1, 8, [.nilFunc]⟩ := ⟨⟨Tryz.t114, _, by kernel_rfl, rfl, rfl, rfl, rfl, rfl, rfl⟩, ⟨_, Tryz.underlying114, ⟨_, _, _, rfl⟩⟩⟩
theorem Tryz.ty115 : TyOk Tryz.prog 115 ⟨.func, 1, 8, [.nilFunc]⟩ := ⟨⟨Tryz.t115, _, by kernel_rfl, rfl, rfl, rfl, rfl, rfl, rfl⟩, ⟨_, Tryz.underlying115, ⟨_, _, _, rfl⟩⟩⟩
theorem Tryz.ty116 : TyOk Tryz.prog 116 ⟨.func, 1, 8, [.nilFunc]⟩ := ⟨⟨Tryz.t116, _, by kernel_rfl, rfl, rfl, rfl, rfl, rfl, rfl⟩, ⟨_, Tryz.underlying116, ⟨_, _, _, rfl⟩⟩⟩
theorem Tryz.ty117 : TyOk Tryz.prog 117 ⟨.func, 1, 8, [.nilFunc]⟩ := ⟨⟨Tryz.t117, _, by kernel_rfl, rfl, rfl, rfl, rfl, rfl, rfl⟩, ⟨_, Tryz.underlying117, ⟨_, _, _, rfl⟩⟩⟩
theorem Tryz.ty118 : TyOk Tryz.prog 118 ⟨.slice 130, 1, 24, [.slice none 0 0]⟩ := ⟨⟨Tryz.t118, _, by kernel_rfl, rfl, rfl, rfl, rfl, rfl, rfl⟩, ⟨_, Tryz.underlying118, rfl⟩⟩
theorem Tryz.ty119 : TyOk Tryz.prog 119 ⟨.struct [(0, 118), (1, 23)], 2, 32, [.slice none 0 0, .nilFunc]⟩ := ⟨⟨Tryz.t119, _, by kernel_rfl, rfl, rfl, rfl, rfl, rfl, rfl⟩, ⟨_, Tryz.underlying119, ⟨_, rfl, rfl⟩⟩⟩
theorem Tryz.ty120 : TyOk Tryz.prog 120 ⟨.struct [(0, 118), (1, 23)], 2, 32, [.slice none 0 0, .nilFunc]⟩ := ⟨⟨Tryz.t120, _, by kernel_rfl, rfl, rfl, rfl, rfl, rfl, rfl⟩, ⟨_, Tryz.underlying120, ⟨_, rfl, rfl⟩⟩⟩
theorem Tryz.ty122 : TyOk Tryz.prog 122 ⟨.func, 1, 8, [.nilFunc]⟩ := ⟨⟨Tryz.t122, _, by kernel_rfl, rfl, rfl, rfl, rfl, rfl, rfl⟩, ⟨_, Tryz.underlying122, ⟨_, _, _, rfl⟩⟩⟩
theorem Tryz.ty123 : TyOk Tryz.prog 123 ⟨.ptr 62, 1, 8, [.pointer none]⟩ := ⟨⟨Tryz.t123, _, by kernel_rfl, rfl, rfl, rfl, rfl, rfl, rfl⟩, ⟨_, Tryz.underlying123, rfl⟩⟩
theorem Tryz.ty124 : TyOk Tryz.prog 124 ⟨.ptr 3, 1, 8, [.pointer none]⟩ := ⟨⟨Tryz.t124, _, by kernel_rfl, rfl, rfl, rfl, rfl, rfl, rfl⟩, ⟨_, Tryz.underlying124, rfl⟩⟩
theorem Tryz.ty125 : TyOk Tryz.prog 125 ⟨.func, 1, 8, [.nilFunc]⟩ := ⟨⟨Tryz.t125, _, by kernel_rfl, rfl, rfl, rfl, rfl, rfl, rfl⟩, ⟨_, Tryz.underlying125, ⟨_, _, _, rfl⟩⟩⟩
theorem Tryz.ty126 : TyOk Tryz.prog 126 ⟨.func, 1, 8, [.nilFunc]⟩ := ⟨⟨Tryz.t126, _, by kernel_rfl, rfl, rfl, rfl, rfl, rfl, rfl⟩, ⟨_, Tryz.underlying126, ⟨_, _, _, rfl⟩⟩⟩
theorem Tryz.ty127 : TyOk Tryz.prog 127 ⟨.struct [(0, 3), (1, 3)], 2, 16, [.int .i64 0, .int .i64 0]⟩ := ⟨⟨Tryz.t127, _, by kernel_rfl, rfl, rfl, rfl, rfl, rfl, rfl⟩, ⟨_, Tryz.underlying127, ⟨_, rfl, rfl⟩⟩⟩
theorem Tryz.ty128 : TyOk Tryz.prog 128 ⟨.struct [(0, 3), (1, 3)], 2, 16, [.int .i64 0, .int .i64 0]⟩ := ⟨⟨Tryz.t128, _, by kernel_rfl, rfl, rfl, rfl, rfl, rfl, rfl⟩, ⟨_, Tryz.underlying128, ⟨_, rfl, rfl⟩⟩⟩
theorem Tryz.ty129 : TyOk Tryz.prog 129 ⟨.struct [(0, 124), (1, 128)], 3, 24, [.pointer none, .int .i64 0, .int .i64 0]⟩ := ⟨⟨Tryz.t129, _, by kernel_rfl, rfl, rfl, rfl, rfl, rfl, rfl⟩, ⟨_, Tryz.underlying129, ⟨_, rfl, rfl⟩⟩⟩
theorem Tryz.ty130 : TyOk Tryz.prog 130 ⟨.struct [(0, 124), (1, 128)], 3, 24, [.pointer none, .int .i64 0, .int .i64 0]⟩ := ⟨⟨Tryz.t130, _, by kernel_rfl, rfl, rfl, rfl, rfl, rfl, rfl⟩, ⟨_, Tryz.underlying130, ⟨_, rfl, rfl⟩⟩⟩
theorem Tryz.ty131 : TyOk Tryz.prog 131 ⟨.func, 1, 8, [.nilFunc]⟩ := ⟨⟨Tryz.t131, _, by kernel_rfl, rfl, rfl, rfl, rfl, rfl, rfl⟩, ⟨_, Tryz.underlying131, ⟨_, _, _, rfl⟩⟩⟩
theorem Tryz.ty132 : TyOk Tryz.prog 132 ⟨.func, 1, 8, [.nilFunc]⟩ := ⟨⟨Tryz.t132, _, by kernel_rfl, rfl, rfl, rfl, rfl, rfl, rfl⟩, ⟨_, Tryz.underlying132, ⟨_, _, _, rfl⟩⟩⟩
theorem Tryz.ty133 : TyOk Tryz.prog 133 ⟨.int .i64, 1, 8, [.int .i64 0]⟩ := ⟨⟨Tryz.t133, _, by kernel_rfl, rfl, rfl, rfl, rfl, rfl, rfl⟩, ⟨_, Tryz.underlying133, rfl⟩⟩
theorem Tryz.ty135 : TyOk Tryz.prog 135 ⟨.func, 1, 8, [.nilFunc]⟩ := ⟨⟨Tryz.t135, _, by kernel_rfl, rfl, rfl, rfl, rfl, rfl, rfl⟩, ⟨_, Tryz.underlying135, ⟨_, _, _, rfl⟩⟩⟩
theorem Tryz.ty136 : TyOk Tryz.prog 136 ⟨.func, 1, 8, [.nilFunc]⟩ := ⟨⟨Tryz.t136, _, by kernel_rfl, rfl, rfl, rfl, rfl, rfl, rfl⟩, ⟨_, Tryz.underlying136, ⟨_, _, _, rfl⟩⟩⟩
theorem Tryz.ty137 : TyOk Tryz.prog 137 ⟨.func, 1, 8, [.nilFunc]⟩ := ⟨⟨Tryz.t137, _, by kernel_rfl, rfl, rfl, rfl, rfl, rfl, rfl⟩, ⟨_, Tryz.underlying137, ⟨_, _, _, rfl⟩⟩⟩
theorem Tryz.ty139 : TyOk Tryz.prog 139 ⟨.func, 1, 8, [.nilFunc]⟩ := ⟨⟨Tryz.t139, _, by kernel_rfl, rfl, rfl, rfl, rfl, rfl, rfl⟩, ⟨_, Tryz.underlying139, ⟨_, _, _, rfl⟩⟩⟩
theorem Tryz.ty140 : TyOk Tryz.prog 140 ⟨.func, 1, 8, [.nilFunc]⟩ := ⟨⟨Tryz.t140, _, by kernel_rfl, rfl, rfl, rfl, rfl, rfl, rfl⟩, ⟨_, Tryz.underlying140, ⟨_, _, _, rfl⟩⟩⟩
theorem Tryz.ty141 : TyOk Tryz.prog 141 ⟨.int .u32, 1, 4, [.int .u32 0]⟩ := ⟨⟨Tryz.t141, _, by kernel_rfl, rfl, rfl, rfl, rfl, rfl, rfl⟩, ⟨_, Tryz.underlying141, rfl⟩⟩
theorem Tryz.ty142 : TyOk Tryz.prog 142 ⟨.func, 1, 8, [.nilFunc]⟩ := ⟨⟨Tryz.t142, _, by kernel_rfl, rfl, rfl, rfl, rfl, rfl, rfl⟩, ⟨_, Tryz.underlying142, ⟨_, _, _, rfl⟩⟩⟩
theorem Tryz.ty143 : TyOk Tryz.prog 143 ⟨.int .u64, 1, 8, [.int .u64 0]⟩ := ⟨⟨Tryz.t143, _, by kernel_rfl, rfl, rfl, rfl, rfl, rfl, rfl⟩, ⟨_, Tryz.underlying143, rfl⟩⟩
theorem Tryz.ty144 : TyOk Tryz.prog 144 ⟨.func, 1, 8, [.nilFunc]⟩ := ⟨⟨Tryz.t144, _, by kernel_rfl, rfl, rfl, rfl, rfl, rfl, rfl⟩, ⟨_, Tryz.underlying144, ⟨_, _, _, rfl⟩⟩⟩
theorem Tryz.ty145 : TyOk Tryz.prog 145 ⟨.func, 1, 8, [.nilFunc]⟩ := ⟨⟨Tryz.t145, _, by kernel_rfl, rfl, rfl, rfl, rfl, rfl, rfl⟩, ⟨_, Tryz.underlying145, ⟨_, _, _, rfl⟩⟩⟩
theorem Tryz.ty146 : TyOk Tryz.prog 146 ⟨.struct [(0, 145)], 1, 8, [.nilFunc]⟩ := ⟨⟨Tryz.t146, _, by kernel_rfl, rfl, rfl, rfl, rfl, rfl, rfl⟩, ⟨_, Tryz.underlying146, ⟨_, rfl, rfl⟩⟩⟩
theorem Tryz.ty147 : TyOk Tryz.prog 147 ⟨.struct [(0, 145)], 1, 8, [.nilFunc]⟩ := ⟨⟨Tryz.t147, _, by kernel_rfl, rfl, rfl, rfl, rfl, rfl, rfl⟩, ⟨_, Tryz.underlying147, ⟨_, rfl, rfl⟩⟩⟩
theorem Tryz.ty148 : TyOk Tryz.prog 148 ⟨.ptr 174, 1, 8, [.pointer none]⟩ := ⟨⟨Tryz.t148, _, by kernel_rfl, rfl, rfl, rfl, rfl, rfl, rfl⟩, ⟨_, Tryz.underlying148, rfl⟩⟩
theorem Tryz.ty149 : TyOk Tryz.prog 149 ⟨.func, 1, 8, [.nilFunc]⟩ := ⟨⟨Tryz.t149, _, by kernel_rfl, rfl, rfl, rfl, rfl, rfl, rfl⟩, ⟨_, Tryz.underlying149, ⟨_, _, _, rfl⟩⟩⟩
theorem Tryz.ty150 : TyOk Tryz.prog 150 ⟨.func, 1, 8, [.nilFunc]⟩ := ⟨⟨Tryz.t150, _, by kernel_rfl, rfl, rfl, rfl, rfl, rfl, rfl⟩, ⟨_, Tryz.underlying150, ⟨_, _, _, rfl⟩⟩⟩
theorem Tryz.ty151 : TyOk Tryz.prog 151 ⟨.func, 1, 8, [.nilFunc]⟩ := ⟨⟨Tryz.t151, _, by kernel_rfl, rfl, rfl, rfl, rfl, rfl, rfl⟩, ⟨_, Tryz.underlying151, ⟨_, _, _, rfl⟩⟩⟩
theorem Tryz.ty152 : TyOk Tryz.prog 152 ⟨.ptr 40, 1, 8, [.pointer none]⟩ := ⟨⟨Tryz.t152, _, by kernel_rfl, rfl, rfl, rfl, rfl, rfl, rfl⟩, ⟨_, Tryz.underlying152, rfl⟩⟩
theorem Tryz.ty153 : TyOk Tryz.prog 153 ⟨.ptr 42, 1, 8, [.pointer none]⟩ := ⟨⟨Tryz.t153, _, by kernel_rfl, rfl, rfl, rfl, rfl, rfl, rfl⟩, ⟨_, Tryz.underlying153, rfl⟩⟩
theorem Tryz.ty154 : TyOk Tryz.prog 154 ⟨.ptr 44, 1, 8, [.pointer none]⟩ := ⟨⟨Tryz.t154, _, by kernel_rfl, rfl, rfl, rfl, rfl, rfl, rfl⟩, ⟨_, Tryz.underlying154, rfl⟩⟩
theorem Tryz.ty155 : TyOk Tryz.prog 155 ⟨.ptr 46, 1, 8, [.pointer none]⟩ := ⟨⟨Tryz.t155, _, by kernel_rfl, rfl, rfl, rfl, rfl, rfl, rfl⟩, ⟨_, Tryz.underlying155, rfl⟩⟩
theorem Tryz.ty156 : TyOk Tryz.prog 156 ⟨.ptr 48, 1, 8, [.pointer none]⟩ := ⟨⟨Tryz.t156, _, by kernel_rfl, rfl, rfl, rfl, rfl, rfl, rfl⟩, ⟨_, Tryz.underlying156, rfl⟩⟩
theorem Tryz.ty157 : TyOk Tryz.prog 157 ⟨.ptr 50, 1, 8, [.pointer none]⟩ := ⟨⟨Tryz.t157, _, by kernel_rfl, rfl, rfl, rfl, rfl, rfl, rfl⟩, ⟨_, Tryz.underlying157, rfl⟩⟩
theorem Tryz.ty158 : TyOk Tryz.prog 158 ⟨.ptr 52, 1, 8, [.pointer none]⟩ := ⟨⟨Tryz.t158, _, by kernel_rfl, rfl, rfl, rfl, rfl, rfl, rfl⟩, ⟨_, Tryz.underlying158, rfl⟩⟩
theorem Tryz.ty159 : TyOk Tryz.prog 159 ⟨.ptr 54, 1, 8, [.pointer none]⟩ := ⟨⟨Tryz.t159, _, by kernel_rfl, rfl, rfl, rfl, rfl, rfl, rfl⟩, ⟨_, Tryz.underlying159, rfl⟩⟩
theorem Tryz.ty160 : TyOk Tryz.prog 160 ⟨.ptr 56, 1, 8, [.pointer none]⟩ := ⟨⟨Tryz.t160, _, by kernel_rfl, rfl, rfl, rfl, rfl, rfl, rfl⟩, ⟨_, Tryz.underlying160, rfl⟩⟩
theorem Tryz.ty161 : TyOk Tryz.prog 161 ⟨.ptr 25, 1, 8, [.pointer none]⟩ := ⟨⟨Tryz.t161, _, by kernel_rfl, rfl, rfl, rfl, rfl, rfl, rfl⟩, ⟨_, Tryz.underlying161, rfl⟩⟩
theorem Tryz.ty162 : TyOk Tryz.prog 162 ⟨.func, 1, 8, [.nilFunc]⟩ := ⟨⟨Tryz.t162, _, by kernel_rfl, rfl, rfl, rfl, rfl, rfl, rfl⟩, ⟨_, Tryz.underlying162, ⟨_, _, _, rfl⟩⟩⟩
theorem Tryz.ty163 : TyOk Tryz.prog 163 ⟨.func, 1, 8, [.nilFunc]⟩ := ⟨⟨Tryz.t163, _, by kernel_rfl, rfl, rfl, rfl, rfl, rfl, rfl⟩, ⟨_, Tryz.underlying163, ⟨_, _, _, rfl⟩⟩⟩
theorem Tryz.ty164 : TyOk Tryz.prog 164 ⟨.func, 1, 8, [.nilFunc]⟩ := ⟨⟨Tryz.t164, _, by kernel_rfl, rfl, rfl, rfl, rfl, rfl, rfl⟩, ⟨_, Tryz.underlying164, ⟨_, _, _, rfl⟩⟩⟩
theorem Tryz.ty165 : TyOk Tryz.prog 165 ⟨.func, 1, 8, [.nilFunc]⟩ := ⟨⟨Tryz.t165, _, by kernel_rfl, rfl, rfl, rfl, rfl, rfl, rfl⟩, ⟨_, Tryz.underlying165, ⟨_, _, _, rfl⟩⟩⟩
theorem Tryz.ty166 : TyOk Tryz.prog 166 ⟨.func, 1, 8, [.nilFunc]⟩ := ⟨⟨Tryz.t166, _, by kernel_rfl, rfl, rfl, rfl, rfl, rfl, rfl⟩, ⟨_, Tryz.underlying166, ⟨_, _, _, rfl⟩⟩⟩
theorem Tryz.ty167 : TyOk Tryz.prog 167 ⟨.int .u64, 1, 8, [.int .u64 0]⟩ := ⟨⟨Tryz.t167, _, by kernel_rfl, rfl, rfl, rfl, rfl, rfl, rfl⟩, ⟨_, Tryz.underlying167, rfl⟩⟩
theorem Tryz.ty168 : TyOk Tryz.prog 168 ⟨.func, 1, 8, [.nilFunc]⟩ := ⟨⟨Tryz.t168, _, by kernel_rfl, rfl, rfl, rfl, rfl, rfl, rfl⟩, ⟨_, Tryz.underlying168, ⟨_, _, _, rfl⟩⟩⟩
theorem Tryz.ty169 : TyOk Tryz.prog 169 ⟨.func, 1, 8, [.nilFunc]⟩ := ⟨⟨Tryz.t169, _, by kernel_rfl, rfl, rfl, rfl, rfl, rfl, rfl⟩, ⟨_, Tryz.underlying169, ⟨_, _, _, rfl⟩⟩⟩
theorem Tryz.ty170 : TyOk Tryz.prog 170 ⟨.func, 1, 8, [.nilFunc]⟩ := ⟨⟨Tryz.t170, _, by kernel_rfl, rfl, rfl, rfl, rfl, rfl, rfl⟩, ⟨_, Tryz.underlying170, ⟨_, _, _, rfl⟩⟩⟩
theorem Tryz.ty171 : TyOk Tryz.prog 171 ⟨.func, 1, 8, [.nilFunc]⟩ := ⟨⟨Tryz.t171, _, by kernel_rfl, rfl, rfl, rfl, rfl, rfl, rfl⟩, ⟨_, Tryz.underlying171, ⟨_, _, _, rfl⟩⟩⟩
theorem Tryz.ty172 : TyOk Tryz.prog 172 ⟨.func, 1, 8, [.nilFunc]⟩ := ⟨⟨Tryz.t172, _, by kernel_rfl, rfl, rfl, rfl, rfl, rfl, rfl⟩, ⟨_, Tryz.underlying172, ⟨_, _, _, rfl⟩⟩⟩
theorem Tryz.ty173 : TyOk Tryz.prog 173 ⟨.array 4 147, 4, 32, [.nilFunc, .nilFunc, .nilFunc, .nilFunc]⟩ := ⟨⟨Tryz.t173, _, by kernel_rfl, rfl, rfl, rfl, rfl, rfl, rfl⟩, ⟨_, Tryz.underlying173, rfl⟩⟩
theorem Tryz.ty174 : TyOk Tryz.prog 174 ⟨.array 4 147, 4, 32, [.nilFunc, .nilFunc, .nilFunc, .nilFunc]⟩ := ⟨⟨Tryz.t174, _, by kernel_rfl, rfl, rfl, rfl, rfl, rfl, rfl⟩, ⟨_, Tryz.underlying174, rfl⟩⟩
theorem Tryz.ty175 : TyOk Tryz.prog 175 ⟨.func, 1, 8, [.nilFunc]⟩ := ⟨⟨Tryz.t175, _, by kernel_rfl, rfl, rfl, rfl, rfl, rfl, rfl⟩, ⟨_, Tryz.underlying175, ⟨_, _, _, rfl⟩⟩⟩
theorem Tryz.ty176 : TyOk Tryz.prog 176 ⟨.func, 1, 8, [.nilFunc]⟩ := ⟨⟨Tryz.t176, _, by kernel_rfl, rfl, rfl, rfl, rfl, rfl, rfl⟩, ⟨_, Tryz.underlying176, ⟨_, _, _, rfl⟩⟩⟩
theorem Tryz.ty177 : TyOk Tryz.prog 177 ⟨.func, 1, 8, [.nilFunc]⟩ := ⟨⟨Tryz.t177, _, by kernel_rfl, rfl, rfl, rfl, rfl, rfl, rfl⟩, ⟨_, Tryz.underlying177, ⟨_, _, _, rfl⟩⟩⟩
theorem Tryz.ty178 : TyOk Tryz.prog 178 ⟨.func, 1, 8, [.nilFunc]⟩ := ⟨⟨Tryz.t178, _, by kernel_rfl, rfl, rfl, rfl, rfl, rfl, rfl⟩, ⟨_, Tryz.underlying178, ⟨_, _, _, rfl⟩⟩⟩
theorem Tryz.ty179 : TyOk Tryz.prog 179 ⟨.func, 1, 8, [.nilFunc]⟩ := ⟨⟨Tryz.t179, _, by kernel_rfl, rfl, rfl, rfl, rfl, rfl, rfl⟩, ⟨_, Tryz.underlying179, ⟨_, _, _, rfl⟩⟩⟩
theorem Tryz.ty180 : TyOk Tryz.prog 180 ⟨.func, 1, 8, [.nilFunc]⟩ := ⟨⟨Tryz.t180, _, by kernel_rfl, rfl, rfl, rfl, rfl, rfl, rfl⟩, ⟨_, Tryz.underlying180, ⟨_, _, _, rfl⟩⟩⟩
theorem Tryz.ty181 : TyOk Tryz.prog 181 ⟨.func, 1, 8, [.nilFunc]⟩ := ⟨⟨Tryz.t181, _, by kernel_rfl, rfl, rfl, rfl, rfl, rfl, rfl⟩, ⟨_, Tryz.underlying181, ⟨_, _, _, rfl⟩⟩⟩
theorem Tryz.ty182 : TyOk Tryz.prog 182 ⟨.ptr 167, 1, 8, [.pointer none]⟩ := ⟨⟨Tryz.t182, _, by kernel_rfl, rfl, rfl, rfl, rfl, rfl, rfl⟩, ⟨_, Tryz.underlying182, rfl⟩⟩
theorem Tryz.ty184 : TyOk Tryz.prog 184 ⟨.func, 1, 8, [.nilFunc]⟩ := ⟨⟨Tryz.t184, _, by kernel_rfl, rfl, rfl, rfl, rfl, rfl, rfl⟩, ⟨_, Tryz.underlying184, ⟨_, _, _, rfl⟩⟩⟩
theorem Tryz.ty185 : TyOk Tryz.prog 185 ⟨.array 4 4, 4, 4, [.bool false, .bool false, .bool false, .bool false]⟩ := ⟨⟨Tryz.t185, _, by kernel_rfl, rfl, rfl, rfl, rfl, rfl, rfl⟩, ⟨_, Tryz.underlying185, rfl⟩⟩
theorem Tryz.ty186 : TyOk Tryz.prog 186 ⟨.func, 1, 8, [.nilFunc]⟩ := ⟨⟨Tryz.t186, _, by kernel_rfl, rfl, rfl, rfl, rfl, rfl, rfl⟩, ⟨_, Tryz.underlying186, ⟨_, _, _, rfl⟩⟩⟩
theorem Tryz.ty187 : TyOk Tryz.prog 187 ⟨.func, 1, 8, [.nilFunc]⟩ := ⟨⟨Tryz.t187, _, by kernel_rfl, rfl, rfl, rfl, rfl, rfl, rfl⟩, ⟨_, Tryz.underlying187, ⟨_, _, _, rfl⟩⟩⟩
theorem Tryz.ty188 : TyOk Tryz.prog 188 ⟨.struct [(0, 17), (1, 17), (2, 17), (3, 9)], 4, 40, [.pointer none, .pointer none, .pointer none, .string { data := #[] }]⟩ := ⟨⟨Tryz.t188, _, by kernel_rfl, rfl, rfl, rfl, rfl, rfl, rfl⟩, ⟨_, Tryz.underlying188, ⟨_, rfl, rfl⟩⟩⟩
theorem Tryz.ty189 : TyOk Tryz.prog 189 ⟨.struct [(0, 17), (1, 17), (2, 17), (3, 9)], 4, 40, [.pointer none, .pointer none, .pointer none, .string { data := #[] }]⟩ := ⟨⟨Tryz.t189, _, by kernel_rfl, rfl, rfl, rfl, rfl, rfl, rfl⟩, ⟨_, Tryz.underlying189, ⟨_, rfl, rfl⟩⟩⟩
theorem Tryz.ty190 : TyOk Tryz.prog 190 ⟨.array 0 16, 0, 0, []⟩ := ⟨⟨Tryz.t190, _, by kernel_rfl, rfl, rfl, rfl, rfl, rfl, rfl⟩, ⟨_, Tryz.underlying190, rfl⟩⟩
theorem Tryz.ty191 : TyOk Tryz.prog 191 ⟨.struct [(0, 190)], 0, 0, []⟩ := ⟨⟨Tryz.t191, _, by kernel_rfl, rfl, rfl, rfl, rfl, rfl, rfl⟩, ⟨_, Tryz.underlying191, ⟨_, rfl, rfl⟩⟩⟩
theorem Tryz.ty192 : TyOk Tryz.prog 192 ⟨.struct [(0, 190)], 0, 0, []⟩ := ⟨⟨Tryz.t192, _, by kernel_rfl, rfl, rfl, rfl, rfl, rfl, rfl⟩, ⟨_, Tryz.underlying192, ⟨_, rfl, rfl⟩⟩⟩
theorem Tryz.ty193 : TyOk Tryz.prog 193 ⟨.func, 1, 8, [.nilFunc]⟩ := ⟨⟨Tryz.t193, _, by kernel_rfl, rfl, rfl, rfl, rfl, rfl, rfl⟩, ⟨_, Tryz.underlying193, ⟨_, _, _, rfl⟩⟩⟩
theorem Tryz.ty194 : TyOk Tryz.prog 194 ⟨.int .u8, 1, 1, [.int .u8 0]⟩ := ⟨⟨Tryz.t194, _, by kernel_rfl, rfl, rfl, rfl, rfl, rfl, rfl⟩, ⟨_, Tryz.underlying194, rfl⟩⟩
theorem Tryz.ty195 : TyOk Tryz.prog 195 ⟨.int .u8, 1, 1, [.int .u8 0]⟩ := ⟨⟨Tryz.t195, _, by kernel_rfl, rfl, rfl, rfl, rfl, rfl, rfl⟩, ⟨_, Tryz.underlying195, rfl⟩⟩
theorem Tryz.ty196 : TyOk Tryz.prog 196 ⟨.func, 1, 8, [.nilFunc]⟩ := ⟨⟨Tryz.t196, _, by kernel_rfl, rfl, rfl, rfl, rfl, rfl, rfl⟩, ⟨_, Tryz.underlying196, ⟨_, _, _, rfl⟩⟩⟩
theorem Tryz.ty197 : TyOk Tryz.prog 197 ⟨.ptr 5, 1, 8, [.pointer none]⟩ := ⟨⟨Tryz.t197, _, by kernel_rfl, rfl, rfl, rfl, rfl, rfl, rfl⟩, ⟨_, Tryz.underlying197, rfl⟩⟩
theorem Tryz.ty198 : TyOk Tryz.prog 198 ⟨.int .i32, 1, 4, [.int .i32 0]⟩ := ⟨⟨Tryz.t198, _, by kernel_rfl, rfl, rfl, rfl, rfl, rfl, rfl⟩, ⟨_, Tryz.underlying198, rfl⟩⟩
theorem Tryz.ty199 : TyOk Tryz.prog 199 ⟨.int .i32, 1, 4, [.int .i32 0]⟩ := ⟨⟨Tryz.t199, _, by kernel_rfl, rfl, rfl, rfl, rfl, rfl, rfl⟩, ⟨_, Tryz.underlying199, rfl⟩⟩
theorem Tryz.ty200 : TyOk Tryz.prog 200 ⟨.struct [(0, 12), (1, 12), (2, 141), (3, 194), (4, 5), (5, 5), (6, 195), (7, 196), (8, 197), (9, 198), (10, 199)], 11, 48, [.int .u64 0, .int .u64 0, .int .u32 0, .int .u8 0, .int .u8 0, .int .u8 0, .int .u8 0, .nilFunc, .pointer none, .int .i32 0, .int .i32 0]⟩ := ⟨⟨Tryz.t200, _, by kernel_rfl, rfl, rfl, rfl, rfl, rfl, rfl⟩, ⟨_, Tryz.underlying200, ⟨_, rfl, rfl⟩⟩⟩
theorem Tryz.ty201 : TyOk Tryz.prog 201 ⟨.struct [(0, 12), (1, 12), (2, 141), (3, 194), (4, 5), (5, 5), (6, 195), (7, 196), (8, 197), (9, 198), (10, 199)], 11, 48, [.int .u64 0, .int .u64 0, .int .u32 0, .int .u8 0, .int .u8 0, .int .u8 0, .int .u8 0, .nilFunc, .pointer none, .int .i32 0, .int .i32 0]⟩ := ⟨⟨Tryz.t201, _, by kernel_rfl, rfl, rfl, rfl, rfl, rfl, rfl⟩, ⟨_, Tryz.underlying201, ⟨_, rfl, rfl⟩⟩⟩

theorem Tryz.tab : TabOk Tryz.prog Tryz.τ := by
  intro T e h
  have hL : AllOk Tryz.prog 0 Tryz.tL := by
    unfold Tryz.tL
    refine ⟨Tryz.ty1, ?_⟩
    refine ⟨Tryz.ty2, ?_⟩
    refine ⟨Tryz.ty3, ?_⟩
    refine ⟨Tryz.ty4, ?_⟩
    refine ⟨Tryz.ty5, ?_⟩
    refine ⟨Tryz.ty6, ?_⟩
    refine ⟨Tryz.ty7, ?_⟩
    refine ⟨Tryz.ty8, ?_⟩
    refine ⟨Tryz.ty9, ?_⟩
    refine ⟨Tryz.ty10, ?_⟩
    refine ⟨Tryz.ty11, ?_⟩
    refine ⟨Tryz.ty12, ?_⟩
    refine ⟨Tryz.ty13, ?_⟩
    refine ⟨Tryz.ty14, ?_⟩
    refine ⟨Tryz.ty15, ?_⟩
    refine ⟨Tryz.ty16, ?_⟩
    refine ⟨Tryz.ty17, ?_⟩
    refine ⟨Tryz.ty18, ?_⟩
    refine ⟨Tryz.ty19, ?_⟩
    refine ⟨Tryz.ty20, ?_⟩
    refine ⟨Tryz.ty21, ?_⟩
    refine ⟨Tryz.ty22, ?_⟩
    refine ⟨Tryz.ty23, ?_⟩
    refine ⟨Tryz.ty24, ?_⟩
    refine ⟨Tryz.ty25, ?_⟩
    refine ⟨Tryz.ty27, ?_⟩
    refine ⟨Tryz.ty28, ?_⟩
    refine ⟨Tryz.ty29, ?_⟩
    refine ⟨Tryz.ty30, ?_⟩
    refine ⟨Tryz.ty31, ?_⟩
    refine ⟨Tryz.ty32, ?_⟩
    refine ⟨Tryz.ty33, ?_⟩
    refine ⟨Tryz.ty34, ?_⟩
    refine ⟨Tryz.ty35, ?_⟩
    refine ⟨Tryz.ty36, ?_⟩
    refine ⟨Tryz.ty37, ?_⟩
    refine ⟨Tryz.ty38, ?_⟩
    refine ⟨Tryz.ty39, ?_⟩
    refine ⟨Tryz.ty40, ?_⟩
    refine ⟨Tryz.ty41, ?_⟩
    refine ⟨Tryz.ty42, ?_⟩
    refine ⟨Tryz.ty43, ?_⟩
    refine ⟨Tryz.ty44, ?_⟩
    refine ⟨Tryz.ty45, ?_⟩
    refine ⟨Tryz.ty46, ?_⟩
    refine ⟨Tryz.ty47, ?_⟩
    refine ⟨Tryz.ty48, ?_⟩
    refine ⟨Tryz.ty49, ?_⟩
    refine ⟨Tryz.ty50, ?_⟩
    refine ⟨Tryz.ty51, ?_⟩
    refine ⟨Tryz.ty52, ?_⟩
    refine ⟨Tryz.ty53, ?_⟩
    refine ⟨Tryz.ty54, ?_⟩
    refine ⟨Tryz.ty55, ?_⟩
    refine ⟨Tryz.ty56, ?_⟩
    refine ⟨Tryz.ty57, ?_⟩
    refine ⟨Tryz.ty58, ?_⟩
    refine ⟨Tryz.ty59, ?_⟩
    refine ⟨Tryz.ty60, ?_⟩
    refine ⟨Tryz.ty61, ?_⟩
    refine ⟨Tryz.ty62, ?_⟩
    refine ⟨Tryz.ty63, ?_⟩
    refine ⟨Tryz.ty64, ?_⟩
    refine ⟨Tryz.ty65, ?_⟩
    refine ⟨Tryz.ty66, ?_⟩
    refine ⟨Tryz.ty67, ?_⟩
    refine ⟨Tryz.ty68, ?_⟩
    refine ⟨Tryz.ty69, ?_⟩
    refine ⟨Tryz.ty70, ?_⟩
    refine ⟨Tryz.ty71, ?_⟩
    refine ⟨Tryz.ty72, ?_⟩
    refine ⟨Tryz.ty73, ?_⟩
    refine ⟨Tryz.ty74, ?_⟩
    refine ⟨Tryz.ty75, ?_⟩
    refine ⟨Tryz.ty76, ?_⟩
    refine ⟨Tryz.ty77, ?_⟩
    refine ⟨Tryz.ty78, ?_⟩
    refine ⟨Tryz.ty79, ?_⟩
    refine ⟨Tryz.ty80, ?_⟩
    refine ⟨Tryz.ty81, ?_⟩
    refine ⟨Tryz.ty82, ?_⟩
    refine ⟨Tryz.ty83, ?_⟩
    refine ⟨Tryz.ty84, ?_⟩
    refine ⟨Tryz.ty85, ?_⟩
    refine ⟨Tryz.ty86, ?_⟩
    refine ⟨Tryz.ty87, ?_⟩
    refine ⟨Tryz.ty88, ?_⟩
    refine ⟨Tryz.ty89, ?_⟩
    refine ⟨Tryz.ty90, ?_⟩
    refine ⟨Tryz.ty91, ?_⟩
    refine ⟨Tryz.ty92, ?_⟩
    refine ⟨Tryz.ty94, ?_⟩
    refine ⟨Tryz.ty95, ?_⟩
    refine ⟨Tryz.ty96, ?_⟩
    refine ⟨Tryz.ty97, ?_⟩
    refine ⟨Tryz.ty98, ?_⟩
    refine ⟨Tryz.ty99, ?_⟩
    refine ⟨Tryz.ty101, ?_⟩
    refine ⟨Tryz.ty102, ?_⟩
    refine ⟨Tryz.ty103, ?_⟩
    refine ⟨Tryz.ty104, ?_⟩
    refine ⟨Tryz.ty105, ?_⟩
    refine ⟨Tryz.ty106, ?_⟩
    refine ⟨Tryz.ty107, ?_⟩
    refine ⟨Tryz.ty108, ?_⟩
    refine ⟨Tryz.ty109, ?_⟩
    refine ⟨Tryz.ty110, ?_⟩
    refine ⟨Tryz.ty111, ?_⟩
    refine ⟨Tryz.ty112, ?_⟩
    refine ⟨Tryz.ty113, ?_⟩
    refine ⟨Tryz.ty114, ?_⟩
    refine ⟨Tryz.ty115, ?_⟩
    refine ⟨Tryz.ty116, ?_⟩
    refine ⟨Tryz.ty117, ?_⟩
    refine ⟨Tryz.ty118, ?_⟩
    refine ⟨Tryz.ty119, ?_⟩
    refine ⟨Tryz.ty120, ?_⟩
    refine ⟨Tryz.ty122, ?_⟩
    refine ⟨Tryz.ty123, ?_⟩
    refine ⟨Tryz.ty124, ?_⟩
    refine ⟨Tryz.ty125, ?_⟩
    refine ⟨Tryz.ty126, ?_⟩
    refine ⟨Tryz.ty127, ?_⟩
    refine ⟨Tryz.ty128, ?_⟩
    refine ⟨Tryz.ty129, ?_⟩
    refine ⟨Tryz.ty130, ?_⟩
    refine ⟨Tryz.ty131, ?_⟩
    refine ⟨Tryz.ty132, ?_⟩
    refine ⟨Tryz.ty133, ?_⟩
    refine ⟨Tryz.ty135, ?_⟩
    refine ⟨Tryz.ty136, ?_⟩
    refine ⟨Tryz.ty137, ?_⟩
    refine ⟨Tryz.ty139, ?_⟩
    refine ⟨Tryz.ty140, ?_⟩
    refine ⟨Tryz.ty141, ?_⟩
    refine ⟨Tryz.ty142, ?_⟩
    refine ⟨Tryz.ty143, ?_⟩
    refine ⟨Tryz.ty144, ?_⟩
    refine ⟨Tryz.ty145, ?_⟩
    refine ⟨Tryz.ty146, ?_⟩
    refine ⟨Tryz.ty147, ?_⟩
    refine ⟨Tryz.ty148, ?_⟩
    refine ⟨Tryz.ty149, ?_⟩
    refine ⟨Tryz.ty150, ?_⟩
    refine ⟨Tryz.ty151, ?_⟩
    refine ⟨Tryz.ty152, ?_⟩
    refine ⟨Tryz.ty153, ?_⟩
    refine ⟨Tryz.ty154, ?_⟩
    refine ⟨Tryz.ty155, ?_⟩
    refine ⟨Tryz.ty156, ?_⟩
    refine ⟨Tryz.ty157, ?_⟩
    refine ⟨Tryz.ty158, ?_⟩
    refine ⟨Tryz.ty159, ?_⟩
    refine ⟨Tryz.ty160, ?_⟩
    refine ⟨Tryz.ty161, ?_⟩
    refine ⟨Tryz.ty162, ?_⟩
    refine ⟨Tryz.ty163, ?_⟩
    refine ⟨Tryz.ty164, ?_⟩
    refine ⟨Tryz.ty165, ?_⟩
    refine ⟨Tryz.ty166, ?_⟩
    refine ⟨Tryz.ty167, ?_⟩
    refine ⟨Tryz.ty168, ?_⟩
    refine ⟨Tryz.ty169, ?_⟩
    refine ⟨Tryz.ty170, ?_⟩
    refine ⟨Tryz.ty171, ?_⟩
    refine ⟨Tryz.ty172, ?_⟩
    refine ⟨Tryz.ty173, ?_⟩
    refine ⟨Tryz.ty174, ?_⟩
    refine ⟨Tryz.ty175, ?_⟩
    refine ⟨Tryz.ty176, ?_⟩
    refine ⟨Tryz.ty177, ?_⟩
    refine ⟨Tryz.ty178, ?_⟩
    refine ⟨Tryz.ty179, ?_⟩
    refine ⟨Tryz.ty180, ?_⟩
    refine ⟨Tryz.ty181, ?_⟩
    refine ⟨Tryz.ty182, ?_⟩
    refine ⟨Tryz.ty184, ?_⟩
    refine ⟨Tryz.ty185, ?_⟩
    refine ⟨Tryz.ty186, ?_⟩
    refine ⟨Tryz.ty187, ?_⟩
    refine ⟨Tryz.ty188, ?_⟩
    refine ⟨Tryz.ty189, ?_⟩
    refine ⟨Tryz.ty190, ?_⟩
    refine ⟨Tryz.ty191, ?_⟩
    refine ⟨Tryz.ty192, ?_⟩
    refine ⟨Tryz.ty193, ?_⟩
    refine ⟨Tryz.ty194, ?_⟩
    refine ⟨Tryz.ty195, ?_⟩
    refine ⟨Tryz.ty196, ?_⟩
    refine ⟨Tryz.ty197, ?_⟩
    refine ⟨Tryz.ty198, ?_⟩
    refine ⟨Tryz.ty199, ?_⟩
    refine ⟨Tryz.ty200, ?_⟩
    refine ⟨Tryz.ty201, ?_⟩
    exact trivial
  unfold Tryz.τ at h
  have h2 : Tryz.tL[T]? = some (some e) := by
    cases ht : Tryz.tL[T]? with
    | none => rw [ht] at h; cases h
    | some x => rw [ht] at h; exact congrArg some h
  have := AllOk.at _ 0 T e hL h2
  rwa [Nat.zero_add] at this

theorem Tryz.mixed : Tryz.prog.follows .mixedOrders = true := by kernel_rfl

theorem Tryz.body5 : Body Tryz.prog 5 := ⟨Tryz.f5, _, Tryz.func5, rfl, by kernel_rfl⟩
theorem Tryz.body6 : Body Tryz.prog 6 := ⟨Tryz.f6, _, Tryz.func6, rfl, by kernel_rfl⟩
theorem Tryz.body7 : Body Tryz.prog 7 := ⟨Tryz.f7, _, Tryz.func7, rfl, by kernel_rfl⟩
theorem Tryz.body8 : Body Tryz.prog 8 := ⟨Tryz.f8, _, Tryz.func8, rfl, by kernel_rfl⟩
theorem Tryz.body9 : Body Tryz.prog 9 := ⟨Tryz.f9, _, Tryz.func9, rfl, by kernel_rfl⟩
theorem Tryz.body10 : Body Tryz.prog 10 := ⟨Tryz.f10, _, Tryz.func10, rfl, by kernel_rfl⟩
theorem Tryz.body11 : Body Tryz.prog 11 := ⟨Tryz.f11, _, Tryz.func11, rfl, by kernel_rfl⟩
theorem Tryz.body12 : Body Tryz.prog 12 := ⟨Tryz.f12, _, Tryz.func12, rfl, by kernel_rfl⟩
theorem Tryz.body13 : Body Tryz.prog 13 := ⟨Tryz.f13, _, Tryz.func13, rfl, by kernel_rfl⟩
theorem Tryz.body14 : Body Tryz.prog 14 := ⟨Tryz.f14, _, Tryz.func14, rfl, by kernel_rfl⟩
theorem Tryz.body15 : Body Tryz.prog 15 := ⟨Tryz.f15, _, Tryz.func15, rfl, by kernel_rfl⟩
theorem Tryz.body16 : Body Tryz.prog 16 := ⟨Tryz.f16, _, Tryz.func16, rfl, by kernel_rfl⟩
theorem Tryz.body17 : Body Tryz.prog 17 := ⟨Tryz.f17, _, Tryz.func17, rfl, by kernel_rfl⟩
theorem Tryz.body18 : Body Tryz.prog 18 := ⟨Tryz.f18, _, Tryz.func18, rfl, by kernel_rfl⟩
theorem Tryz.body19 : Body Tryz.prog 19 := ⟨Tryz.f19, _, Tryz.func19, rfl, by kernel_rfl⟩
theorem Tryz.body20 : Body Tryz.prog 20 := ⟨Tryz.f20, _, Tryz.func20, rfl, by kernel_rfl⟩
theorem Tryz.body21 : Body Tryz.prog 21 := ⟨Tryz.f21, _, Tryz.func21, rfl, by kernel_rfl⟩
theorem Tryz.body22 : Body Tryz.prog 22 := ⟨Tryz.f22, _, Tryz.func22, rfl, by kernel_rfl⟩
theorem Tryz.body23 : Body Tryz.prog 23 := ⟨Tryz.f23, _, Tryz.func23, rfl, by kernel_rfl⟩
theorem Tryz.body24 : Body Tryz.prog 24 := ⟨Tryz.f24, _, Tryz.func24, rfl, by kernel_rfl⟩
theorem Tryz.body25 : Body Tryz.prog 25 := ⟨Tryz.f25, _, Tryz.func25, rfl, by kernel_rfl⟩
theorem Tryz.body26 : Body Tryz.prog 26 := ⟨Tryz.f26, _, Tryz.func26, rfl, by kernel_rfl⟩
theorem Tryz.body27 : Body Tryz.prog 27 := ⟨Tryz.f27, _, Tryz.func27, rfl, by kernel_rfl⟩
theorem Tryz.body28 : Body Tryz.prog 28 := ⟨Tryz.f28, _, Tryz.func28, rfl, by kernel_rfl⟩
theorem Tryz.body29 : Body Tryz.prog 29 := ⟨Tryz.f29, _, Tryz.func29, rfl, by kernel_rfl⟩
theorem Tryz.body30 : Body Tryz.prog 30 := ⟨Tryz.f30, _, Tryz.func30, rfl, by kernel_rfl⟩
theorem Tryz.body31 : Body Tryz.prog 31 := ⟨Tryz.f31, _, Tryz.func31, rfl, by kernel_rfl⟩
theorem Tryz.body32 : Body Tryz.prog 32 := ⟨Tryz.f32, _, Tryz.func32, rfl, by kernel_rfl⟩
theorem Tryz.body33 : Body Tryz.prog 33 := ⟨Tryz.f33, _, Tryz.func33, rfl, by kernel_rfl⟩
theorem Tryz.body34 : Body Tryz.prog 34 := ⟨Tryz.f34, _, Tryz.func34, rfl, by kernel_rfl⟩
theorem Tryz.body35 : Body Tryz.prog 35 := ⟨Tryz.f35, _, Tryz.func35, rfl, by kernel_rfl⟩
theorem Tryz.body36 : Body Tryz.prog 36 := ⟨Tryz.f36, _, Tryz.func36, rfl, by kernel_rfl⟩
theorem Tryz.body37 : Body Tryz.prog 37 := ⟨Tryz.f37, _, Tryz.func37, rfl, by kernel_rfl⟩
theorem Tryz.body38 : Body Tryz.prog 38 := ⟨Tryz.f38, _, Tryz.func38, rfl, by kernel_rfl⟩
theorem Tryz.body39 : Body Tryz.prog 39 := ⟨Tryz.f39, _, Tryz.func39, rfl, by kernel_rfl⟩
theorem Tryz.body40 : Body Tryz.prog 40 := ⟨Tryz.f40, _, Tryz.func40, rfl, by kernel_rfl⟩
theorem Tryz.body41 : Body Tryz.prog 41 := ⟨Tryz.f41, _, Tryz.func41, rfl, by kernel_rfl⟩
theorem Tryz.body42 : Body Tryz.prog 42 := ⟨Tryz.f42, _, Tryz.func42, rfl, by kernel_rfl⟩
theorem Tryz.body43 : Body Tryz.prog 43 := ⟨Tryz.f43, _, Tryz.func43, rfl, by kernel_rfl⟩
theorem Tryz.body44 : Body Tryz.prog 44 := ⟨Tryz.f44, _, Tryz.func44, rfl, by kernel_rfl⟩
theorem Tryz.body45 : Body Tryz.prog 45 := ⟨Tryz.f45, _, Tryz.func45, rfl, by kernel_rfl⟩
theorem Tryz.body46 : Body Tryz.prog 46 := ⟨Tryz.f46, _, Tryz.func46, rfl, by kernel_rfl⟩
theorem Tryz.body47 : Body Tryz.prog 47 := ⟨Tryz.f47, _, Tryz.func47, rfl, by kernel_rfl⟩
theorem Tryz.body48 : Body Tryz.prog 48 := ⟨Tryz.f48, _, Tryz.func48, rfl, by kernel_rfl⟩
theorem Tryz.body49 : Body Tryz.prog 49 := ⟨Tryz.f49, _, Tryz.func49, rfl, by kernel_rfl⟩
theorem Tryz.body50 : Body Tryz.prog 50 := ⟨Tryz.f50, _, Tryz.func50, rfl, by kernel_rfl⟩
theorem Tryz.body51 : Body Tryz.prog 51 := ⟨Tryz.f51, _, Tryz.func51, rfl, by kernel_rfl⟩
theorem Tryz.body52 : Body Tryz.prog 52 := ⟨Tryz.f52, _, Tryz.func52, rfl, by kernel_rfl⟩
theorem Tryz.body53 : Body Tryz.prog 53 := ⟨Tryz.f53, _, Tryz.func53, rfl, by kernel_rfl⟩
theorem Tryz.body54 : Body Tryz.prog 54 := ⟨Tryz.f54, _, Tryz.func54, rfl, by kernel_rfl⟩
theorem Tryz.body55 : Body Tryz.prog 55 := ⟨Tryz.f55, _, Tryz.func55, rfl, by kernel_rfl⟩
theorem Tryz.body56 : Body Tryz.prog 56 := ⟨Tryz.f56, _, Tryz.func56, rfl, by kernel_rfl⟩
theorem Tryz.body57 : Body Tryz.prog 57 := ⟨Tryz.f57, _, Tryz.func57, rfl, by kernel_rfl⟩
theorem Tryz.body58 : Body Tryz.prog 58 := ⟨Tryz.f58, _, Tryz.func58, rfl, by kernel_rfl⟩
theorem Tryz.body61 : Body Tryz.prog 61 := ⟨Tryz.f61, _, Tryz.func61, rfl, by kernel_rfl⟩
theorem Tryz.body63 : Body Tryz.prog 63 := ⟨Tryz.f63, _, Tryz.func63, rfl, by kernel_rfl⟩
theorem Tryz.body64 : Body Tryz.prog 64 := ⟨Tryz.f64, _, Tryz.func64, rfl, by kernel_rfl⟩
theorem Tryz.body65 : Body Tryz.prog 65 := ⟨Tryz.f65, _, Tryz.func65, rfl, by kernel_rfl⟩
theorem Tryz.body66 : Body Tryz.prog 66 := ⟨Tryz.f66, _, Tryz.func66, rfl, by kernel_rfl⟩
theorem Tryz.body67 : Body Tryz.prog 67 := ⟨Tryz.f67, _, Tryz.func67, rfl, by kernel_rfl⟩
theorem Tryz.body68 : Body Tryz.prog 68 := ⟨Tryz.f68, _, Tryz.func68, rfl, by kernel_rfl⟩
theorem Tryz.body69 : Body Tryz.prog 69 := ⟨Tryz.f69, _, Tryz.func69, rfl, by kernel_rfl⟩
theorem Tryz.body70 : Body Tryz.prog 70 := ⟨Tryz.f70, _, Tryz.func70, rfl, by kernel_rfl⟩
theorem Tryz.body71 : Body Tryz.prog 71 := ⟨Tryz.f71, _, Tryz.func71, rfl, by kernel_rfl⟩
theorem Tryz.body72 : Body Tryz.prog 72 := ⟨Tryz.f72, _, Tryz.func72, rfl, by kernel_rfl⟩
theorem Tryz.body73 : Body Tryz.prog 73 := ⟨Tryz.f73, _, Tryz.func73, rfl, by kernel_rfl⟩
theorem Tryz.body74 : Body Tryz.prog 74 := ⟨Tryz.f74, _, Tryz.func74, rfl, by kernel_rfl⟩
theorem Tryz.body75 : Body Tryz.prog 75 := ⟨Tryz.f75, _, Tryz.func75, rfl, by kernel_rfl⟩
theorem Tryz.body76 : Body Tryz.prog 76 := ⟨Tryz.f76, _, Tryz.func76, rfl, by kernel_rfl⟩
theorem Tryz.body77 : Body Tryz.prog 77 := ⟨Tryz.f77, _, Tryz.func77, rfl, by kernel_rfl⟩
theorem Tryz.body78 : Body Tryz.prog 78 := ⟨Tryz.f78, _, Tryz.func78, rfl, by kernel_rfl⟩
theorem Tryz.body90 : Body Tryz.prog 90 := ⟨Tryz.f90, _, Tryz.func90, rfl, by kernel_rfl⟩
theorem Tryz.body91 : Body Tryz.prog 91 := ⟨Tryz.f91, _, Tryz.func91, rfl, by kernel_rfl⟩
theorem Tryz.body92 : Body Tryz.prog 92 := ⟨Tryz.f92, _, Tryz.func92, rfl, by kernel_rfl⟩
theorem Tryz.body93 : Body Tryz.prog 93 := ⟨Tryz.f93, _, Tryz.func93, rfl, by kernel_rfl⟩
theorem Tryz.body94 : Body Tryz.prog 94 := ⟨Tryz.f94, _, Tryz.func94, rfl, by kernel_rfl⟩
theorem Tryz.body95 : Body Tryz.prog 95 := ⟨Tryz.f95, _, Tryz.func95, rfl, by kernel_rfl⟩
theorem Tryz.body96 : Body Tryz.prog 96 := ⟨Tryz.f96, _, Tryz.func96, rfl, by kernel_rfl⟩
theorem Tryz.body97 : Body Tryz.prog 97 := ⟨Tryz.f97, _, Tryz.func97, rfl, by kernel_rfl⟩
theorem Tryz.body98 : Body Tryz.prog 98 := ⟨Tryz.f98, _, Tryz.func98, rfl, by kernel_rfl⟩
theorem Tryz.body99 : Body Tryz.prog 99 := ⟨Tryz.f99, _, Tryz.func99, rfl, by kernel_rfl⟩
theorem Tryz.body113 : Body Tryz.prog 113 := ⟨Tryz.f113, _, Tryz.func113, rfl, by kernel_rfl⟩
theorem Tryz.body114 : Body Tryz.prog 114 := ⟨Tryz.f114, _, Tryz.func114, rfl, by kernel_rfl⟩
theorem Tryz.body115 : Body Tryz.prog 115 := ⟨Tryz.f115, _, Tryz.func115, rfl, by kernel_rfl⟩
theorem Tryz.body116 : Body Tryz.prog 116 := ⟨Tryz.f116, _, Tryz.func116, rfl, by kernel_rfl⟩
theorem Tryz.body117 : Body Tryz.prog 117 := ⟨Tryz.f117, _, Tryz.func117, rfl, by kernel_rfl⟩
theorem Tryz.body118 : Body Tryz.prog 118 := ⟨Tryz.f118, _, Tryz.func118, rfl, by kernel_rfl⟩
theorem Tryz.body119 : Body Tryz.prog 119 := ⟨Tryz.f119, _, Tryz.func119, rfl, by kernel_rfl⟩
theorem Tryz.body120 : Body Tryz.prog 120 := ⟨Tryz.f120, _, Tryz.func120, rfl, by kernel_rfl⟩
theorem Tryz.body121 : Body Tryz.prog 121 := ⟨Tryz.f121, _, Tryz.func121, rfl, by kernel_rfl⟩
theorem Tryz.body122 : Body Tryz.prog 122 := ⟨Tryz.f122, _, Tryz.func122, rfl, by kernel_rfl⟩
instance : Glob := ⟨fun
  | 2 => some [.v (.int .i64 (-1099511627776)), .v (.int .i64 1099511627776)]
  | 6 => some [.v (.int .i64 0), .v (.int .i64 1099511627776)]
  | 1 => some [.v (.int .i64 1), .v (.int .i64 9999)]
  | 4 => some [.v (.int .i64 0), .v (.int .i64 39)]
  | 5 => some [.v (.int .i64 0), .v (.int .i64 255)]
  | 3 => some [.v (.int .i64 0), .v (.int .i64 1048576)]
  | 7 => some [.v (.int .i64 0), .v (.int .i64 255)]
  | 8 => some [.v (.int .i64 1), .v (.int .i64 1048576)]
  | 10 => some [.v (.int .i64 0), .v (.int .i64 31)]
  | 11 => some [.v (.int .i64 1), .v (.int .i64 1048576)]
  | 9 => some [.v (.int .i64 0), .v (.int .i64 1)]
  | _ => none⟩
@[simp] theorem Tryz.laid2 : (Glob.laid 2 : Option (List D)) = some [.v (.int .i64 (-1099511627776)), .v (.int .i64 1099511627776)] := rfl
@[simp] theorem Tryz.laid6 : (Glob.laid 6 : Option (List D)) = some [.v (.int .i64 0), .v (.int .i64 1099511627776)] := rfl
@[simp] theorem Tryz.laid1 : (Glob.laid 1 : Option (List D)) = some [.v (.int .i64 1), .v (.int .i64 9999)] := rfl
@[simp] theorem Tryz.laid4 : (Glob.laid 4 : Option (List D)) = some [.v (.int .i64 0), .v (.int .i64 39)] := rfl
@[simp] theorem Tryz.laid5 : (Glob.laid 5 : Option (List D)) = some [.v (.int .i64 0), .v (.int .i64 255)] := rfl
@[simp] theorem Tryz.laid3 : (Glob.laid 3 : Option (List D)) = some [.v (.int .i64 0), .v (.int .i64 1048576)] := rfl
@[simp] theorem Tryz.laid7 : (Glob.laid 7 : Option (List D)) = some [.v (.int .i64 0), .v (.int .i64 255)] := rfl
@[simp] theorem Tryz.laid8 : (Glob.laid 8 : Option (List D)) = some [.v (.int .i64 1), .v (.int .i64 1048576)] := rfl
@[simp] theorem Tryz.laid10 : (Glob.laid 10 : Option (List D)) = some [.v (.int .i64 0), .v (.int .i64 31)] := rfl
@[simp] theorem Tryz.laid11 : (Glob.laid 11 : Option (List D)) = some [.v (.int .i64 1), .v (.int .i64 1048576)] := rfl
@[simp] theorem Tryz.laid9 : (Glob.laid 9 : Option (List D)) = some [.v (.int .i64 0), .v (.int .i64 1)] := rfl

end Go.Proofs.YtjjaabidbeoomaaGreatDoor

namespace Go.Proofs.YtjjaabidbeoomaaGreatDoor
open Go.Xe
/-- Of two claims the first by the usual means. -/
theorem aI {p q : Prop} (hq : q) (hp : p := by first | rfl | omega | decide | (simp; done) | (simp; omega) | (intro _ h; exact fcs_side h; done) | (intros; simp_all; done) | (intros; simp_all; omega)) : p ∧ q := ⟨hp, hq⟩
theorem wS {ds : Dn} {pn : Pn} {Q : Exit → St → Prop} {S : St} {x y : Code} (h : WP Tryz.prog ds pn x (seqQ Tryz.prog ds pn y Q) S) : WP Tryz.prog ds pn (.seq x y) Q S := WP.seq h
theorem wB {ds : Dn} {pn : Pn} {Q : Exit → St → Prop} {S : St} {id : Nat} {c : Code} (h : WP Tryz.prog ds pn c (blkQ id Q) S) : WP Tryz.prog ds pn (.block id c) Q S := WP.block h
theorem wR {ds : Dn} {pn : Pn} {Q : Exit → St → Prop} {S : St} {id : Nat} {l : List Oper} (h : vcOps Tryz.prog ds pn Tryz.τ (l.map (·.dst)) (fun _ S' => Q .normal S') l S []) : WP Tryz.prog ds pn (.region id l.toArray false) Q S := WP.region Tryz.tab h
theorem wD {ds : Dn} {pn : Pn} {Q : Exit → St → Prop} {S : St} {id : Nat} {l : List Oper} (h : vcOps Tryz.prog ds pn Tryz.τ (l.map (·.dst)) (fun tis S' => freshS S (tis.flatMap fun t => t.e.add) ∧ drawOkT (pn.zs.map (·.1)) (l.map (·.dst)) l (tis.map TI.ts) = true ∧ Q .normal S') l S []) : WP Tryz.prog ds pn (.region id l.toArray true) Q S := WP.draw Tryz.tab Tryz.mixed h
end Go.Proofs.YtjjaabidbeoomaaGreatDoor
