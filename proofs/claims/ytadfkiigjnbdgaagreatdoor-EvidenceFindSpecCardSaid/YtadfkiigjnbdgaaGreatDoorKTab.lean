/-
  The types of the seat, for the engine. Printed by seatgen.py.
-/
import Derived.Test.YtadfkiigjnbdgaaGreatDoorRows
import Derived.Test.YtadfkiigjnbdgaaGreatDoorK3
set_option linter.unusedVariables false
set_option linter.unusedSimpArgs false
set_option linter.unusedSectionVars false
namespace Go.Proofs.YtadfkiigjnbdgaaGreatDoor
open Go.Xe

def Tryz.tL : List (Option TE) := [
  none,
  some ⟨.func, 1, 8, [.nilFunc]⟩,
  some ⟨.int .i64, 1, 8, [.int .i64 0]⟩,
  some ⟨.int .i64, 1, 8, [.int .i64 0]⟩,
  some ⟨.bool, 1, 1, [.bool false]⟩,
  some ⟨.int .u8, 1, 1, [.int .u8 0]⟩,
  some ⟨.int .u8, 1, 1, [.int .u8 0]⟩,
  some ⟨.struct [(0, 2), (1, 3), (2, 4), (3, 6)], 4, 24, [.int .i64 0, .int .i64 0, .bool false, .int .u8 0]⟩,
  some ⟨.struct [(0, 2), (1, 3), (2, 4), (3, 6)], 4, 24, [.int .i64 0, .int .i64 0, .bool false, .int .u8 0]⟩,
  some ⟨.string, 1, 16, [.string { data := #[] }]⟩,
  some ⟨.string, 1, 16, [.string { data := #[] }]⟩,
  some ⟨.string, 1, 16, [.string { data := #[] }]⟩,
  some ⟨.int .u64, 1, 8, [.int .u64 0]⟩,
  some ⟨.struct [(0, 9), (1, 12)], 2, 24, [.string { data := #[] }, .int .u64 0]⟩,
  some ⟨.struct [(0, 9), (1, 12)], 2, 24, [.string { data := #[] }, .int .u64 0]⟩,
  some ⟨.ptr 280, 1, 8, [.pointer none]⟩,
  some ⟨.ptr 283, 1, 8, [.pointer none]⟩,
  some ⟨.ptr 292, 1, 8, [.pointer none]⟩,
  some ⟨.struct [(0, 17)], 1, 8, [.pointer none]⟩,
  some ⟨.struct [(0, 17)], 1, 8, [.pointer none]⟩,
  some ⟨.iface, 1, 16, [.nilIface]⟩,
  some ⟨.int .i32, 1, 4, [.int .i32 0]⟩,
  some ⟨.slice 58, 1, 24, [.slice none 0 0]⟩,
  some ⟨.struct [(0, 22)], 1, 24, [.slice none 0 0]⟩,
  some ⟨.struct [(0, 22)], 1, 24, [.slice none 0 0]⟩,
  some ⟨.struct [(0, 3), (1, 3)], 2, 16, [.int .i64 0, .int .i64 0]⟩,
  some ⟨.struct [(0, 3), (1, 3)], 2, 16, [.int .i64 0, .int .i64 0]⟩,
  some ⟨.func, 1, 8, [.nilFunc]⟩,
  some ⟨.func, 1, 8, [.nilFunc]⟩,
  some ⟨.slice 26, 1, 24, [.slice none 0 0]⟩,
  some ⟨.struct [(0, 3), (1, 3), (2, 3), (3, 3), (4, 3), (5, 3), (6, 3), (7, 3)], 8, 64, [.int .i64 0, .int .i64 0, .int .i64 0, .int .i64 0, .int .i64 0, .int .i64 0, .int .i64 0, .int .i64 0]⟩,
  some ⟨.struct [(0, 3), (1, 3), (2, 3), (3, 3), (4, 3), (5, 3), (6, 3), (7, 3)], 8, 64, [.int .i64 0, .int .i64 0, .int .i64 0, .int .i64 0, .int .i64 0, .int .i64 0, .int .i64 0, .int .i64 0]⟩,
  some ⟨.struct [(0, 3), (1, 3), (2, 3), (3, 3)], 4, 32, [.int .i64 0, .int .i64 0, .int .i64 0, .int .i64 0]⟩,
  some ⟨.struct [(0, 3), (1, 3), (2, 3), (3, 3)], 4, 32, [.int .i64 0, .int .i64 0, .int .i64 0, .int .i64 0]⟩,
  some ⟨.struct [(0, 3), (1, 3), (2, 3), (3, 3), (4, 3)], 5, 40, [.int .i64 0, .int .i64 0, .int .i64 0, .int .i64 0, .int .i64 0]⟩,
  some ⟨.struct [(0, 3), (1, 3), (2, 3), (3, 3), (4, 3)], 5, 40, [.int .i64 0, .int .i64 0, .int .i64 0, .int .i64 0, .int .i64 0]⟩,
  some ⟨.struct [(0, 3), (1, 3), (2, 3), (3, 3), (4, 3), (5, 3), (6, 3), (7, 3)], 8, 64, [.int .i64 0, .int .i64 0, .int .i64 0, .int .i64 0, .int .i64 0, .int .i64 0, .int .i64 0, .int .i64 0]⟩,
  some ⟨.struct [(0, 3), (1, 3), (2, 3), (3, 3), (4, 3), (5, 3), (6, 3), (7, 3)], 8, 64, [.int .i64 0, .int .i64 0, .int .i64 0, .int .i64 0, .int .i64 0, .int .i64 0, .int .i64 0, .int .i64 0]⟩,
  some ⟨.struct [(0, 3), (1, 3), (2, 3), (3, 3)], 4, 32, [.int .i64 0, .int .i64 0, .int .i64 0, .int .i64 0]⟩,
  some ⟨.struct [(0, 3), (1, 3), (2, 3), (3, 3)], 4, 32, [.int .i64 0, .int .i64 0, .int .i64 0, .int .i64 0]⟩,
  some ⟨.struct [(0, 3), (1, 3), (2, 3), (3, 3)], 4, 32, [.int .i64 0, .int .i64 0, .int .i64 0, .int .i64 0]⟩,
  some ⟨.struct [(0, 3), (1, 3), (2, 3), (3, 3)], 4, 32, [.int .i64 0, .int .i64 0, .int .i64 0, .int .i64 0]⟩,
  some ⟨.struct [(0, 3), (1, 3)], 2, 16, [.int .i64 0, .int .i64 0]⟩,
  some ⟨.struct [(0, 3), (1, 3)], 2, 16, [.int .i64 0, .int .i64 0]⟩,
  some ⟨.struct [(0, 3), (1, 3), (2, 3), (3, 3)], 4, 32, [.int .i64 0, .int .i64 0, .int .i64 0, .int .i64 0]⟩,
  some ⟨.struct [(0, 3), (1, 3), (2, 3), (3, 3)], 4, 32, [.int .i64 0, .int .i64 0, .int .i64 0, .int .i64 0]⟩,
  some ⟨.struct [(0, 3), (1, 3), (2, 3), (3, 3)], 4, 32, [.int .i64 0, .int .i64 0, .int .i64 0, .int .i64 0]⟩,
  some ⟨.struct [(0, 3), (1, 3), (2, 3), (3, 3)], 4, 32, [.int .i64 0, .int .i64 0, .int .i64 0, .int .i64 0]⟩,
  some ⟨.struct [(0, 3), (1, 3), (2, 3), (3, 3), (4, 3), (5, 3)], 6, 48, [.int .i64 0, .int .i64 0, .int .i64 0, .int .i64 0, .int .i64 0, .int .i64 0]⟩,
  some ⟨.struct [(0, 3), (1, 3), (2, 3), (3, 3), (4, 3), (5, 3)], 6, 48, [.int .i64 0, .int .i64 0, .int .i64 0, .int .i64 0, .int .i64 0, .int .i64 0]⟩,
  some ⟨.struct [(0, 3), (1, 4)], 2, 16, [.int .i64 0, .bool false]⟩,
  some ⟨.struct [(0, 3), (1, 4)], 2, 16, [.int .i64 0, .bool false]⟩,
  some ⟨.struct [(0, 3), (1, 3), (2, 3), (3, 3), (4, 31), (12, 33), (16, 35), (21, 37), (29, 39), (33, 41), (37, 43), (39, 45), (43, 47), (47, 49), (53, 51), (55, 26)], 57, 456, [.int .i64 0, .int .i64 0, .int .i64 0, .int .i64 0, .int .i64 0, .int .i64 0, .int .i64 0, .int .i64 0, .int .i64 0, .int .i64 0, .int .i64 0, .int .i64 0, .int .i64 0, .int .i64 0, .int .i64 0, .int .i64 0, .int .i64 0, .int .i64 0, .int .i64 0, .int .i64 0, .int .i64 0, .int .i64 0, .int .i64 0, .int .i64 0, .int .i64 0, .int .i64 0, .int .i64 0, .int .i64 0, .int .i64 0, .int .i64 0, .int .i64 0, .int .i64 0, .int .i64 0, .int .i64 0, .int .i64 0, .int .i64 0, .int .i64 0, .int .i64 0, .int .i64 0, .int .i64 0, .int .i64 0, .int .i64 0, .int .i64 0, .int .i64 0, .int .i64 0, .int .i64 0, .int .i64 0, .int .i64 0, .int .i64 0, .int .i64 0, .int .i64 0, .int .i64 0, .int .i64 0, .int .i64 0, .bool false, .int .i64 0, .int .i64 0]⟩,
  some ⟨.struct [(0, 3), (1, 3), (2, 3), (3, 3), (4, 31), (12, 33), (16, 35), (21, 37), (29, 39), (33, 41), (37, 43), (39, 45), (43, 47), (47, 49), (53, 51), (55, 26)], 57, 456, [.int .i64 0, .int .i64 0, .int .i64 0, .int .i64 0, .int .i64 0, .int .i64 0, .int .i64 0, .int .i64 0, .int .i64 0, .int .i64 0, .int .i64 0, .int .i64 0, .int .i64 0, .int .i64 0, .int .i64 0, .int .i64 0, .int .i64 0, .int .i64 0, .int .i64 0, .int .i64 0, .int .i64 0, .int .i64 0, .int .i64 0, .int .i64 0, .int .i64 0, .int .i64 0, .int .i64 0, .int .i64 0, .int .i64 0, .int .i64 0, .int .i64 0, .int .i64 0, .int .i64 0, .int .i64 0, .int .i64 0, .int .i64 0, .int .i64 0, .int .i64 0, .int .i64 0, .int .i64 0, .int .i64 0, .int .i64 0, .int .i64 0, .int .i64 0, .int .i64 0, .int .i64 0, .int .i64 0, .int .i64 0, .int .i64 0, .int .i64 0, .int .i64 0, .int .i64 0, .int .i64 0, .int .i64 0, .bool false, .int .i64 0, .int .i64 0]⟩,
  some ⟨.slice 145, 1, 24, [.slice none 0 0]⟩,
  some ⟨.struct [(0, 3), (1, 54), (2, 54), (3, 54)], 4, 80, [.int .i64 0, .slice none 0 0, .slice none 0 0, .slice none 0 0]⟩,
  some ⟨.struct [(0, 3), (1, 54), (2, 54), (3, 54)], 4, 80, [.int .i64 0, .slice none 0 0, .slice none 0 0, .slice none 0 0]⟩,
  some ⟨.struct [(0, 53), (57, 56)], 61, 536, [.int .i64 0, .int .i64 0, .int .i64 0, .int .i64 0, .int .i64 0, .int .i64 0, .int .i64 0, .int .i64 0, .int .i64 0, .int .i64 0, .int .i64 0, .int .i64 0, .int .i64 0, .int .i64 0, .int .i64 0, .int .i64 0, .int .i64 0, .int .i64 0, .int .i64 0, .int .i64 0, .int .i64 0, .int .i64 0, .int .i64 0, .int .i64 0, .int .i64 0, .int .i64 0, .int .i64 0, .int .i64 0, .int .i64 0, .int .i64 0, .int .i64 0, .int .i64 0, .int .i64 0, .int .i64 0, .int .i64 0, .int .i64 0, .int .i64 0, .int .i64 0, .int .i64 0, .int .i64 0, .int .i64 0, .int .i64 0, .int .i64 0, .int .i64 0, .int .i64 0, .int .i64 0, .int .i64 0, .int .i64 0, .int .i64 0, .int .i64 0, .int .i64 0, .int .i64 0, .int .i64 0, .int .i64 0, .bool false, .int .i64 0, .int .i64 0, .int .i64 0, .slice none 0 0, .slice none 0 0, .slice none 0 0]⟩,
  some ⟨.struct [(0, 53), (57, 56)], 61, 536, [.int .i64 0, .int .i64 0, .int .i64 0, .int .i64 0, .int .i64 0, .int .i64 0, .int .i64 0, .int .i64 0, .int .i64 0, .int .i64 0, .int .i64 0, .int .i64 0, .int .i64 0, .int .i64 0, .int .i64 0, .int .i64 0, .int .i64 0, .int .i64 0, .int .i64 0, .int .i64 0, .int .i64 0, .int .i64 0, .int .i64 0, .int .i64 0, .int .i64 0, .int .i64 0, .int .i64 0, .int .i64 0, .int .i64 0, .int .i64 0, .int .i64 0, .int .i64 0, .int .i64 0, .int .i64 0, .int .i64 0, .int .i64 0, .int .i64 0, .int .i64 0, .int .i64 0, .int .i64 0, .int .i64 0, .int .i64 0, .int .i64 0, .int .i64 0, .int .i64 0, .int .i64 0, .int .i64 0, .int .i64 0, .int .i64 0, .int .i64 0, .int .i64 0, .int .i64 0, .int .i64 0, .int .i64 0, .bool false, .int .i64 0, .int .i64 0, .int .i64 0, .slice none 0 0, .slice none 0 0, .slice none 0 0]⟩,
  some ⟨.func, 1, 8, [.nilFunc]⟩,
  some ⟨.struct [(0, 58), (61, 58)], 122, 1072, [.int .i64 0, .int .i64 0, .int .i64 0, .int .i64 0, .int .i64 0, .int .i64 0, .int .i64 0, .int .i64 0, .int .i64 0, .int .i64 0, .int .i64 0, .int .i64 0, .int .i64 0, .int .i64 0, .int .i64 0, .int .i64 0, .int .i64 0, .int .i64 0, .int .i64 0, .int .i64 0, .int .i64 0, .int .i64 0, .int .i64 0, .int .i64 0, .int .i64 0, .int .i64 0, .int .i64 0, .int .i64 0, .int .i64 0, .int .i64 0, .int .i64 0, .int .i64 0, .int .i64 0, .int .i64 0, .int .i64 0, .int .i64 0, .int .i64 0, .int .i64 0, .int .i64 0, .int .i64 0, .int .i64 0, .int .i64 0, .int .i64 0, .int .i64 0, .int .i64 0, .int .i64 0, .int .i64 0, .int .i64 0, .int .i64 0, .int .i64 0, .int .i64 0, .int .i64 0, .int .i64 0, .int .i64 0, .bool false, .int .i64 0, .int .i64 0, .int .i64 0, .slice none 0 0, .slice none 0 0, .slice none 0 0, .int .i64 0, .int .i64 0, .int .i64 0, .int .i64 0, .int .i64 0, .int .i64 0, .int .i64 0, .int .i64 0, .int .i64 0, .int .i64 0, .int .i64 0, .int .i64 0, .int .i64 0, .int .i64 0, .int .i64 0, .int .i64 0, .int .i64 0, .int .i64 0, .int .i64 0, .int .i64 0, .int .i64 0, .int .i64 0, .int .i64 0, .int .i64 0, .int .i64 0, .int .i64 0, .int .i64 0, .int .i64 0, .int .i64 0, .int .i64 0, .int .i64 0, .int .i64 0, .int .i64 0, .int .i64 0, .int .i64 0, .int .i64 0, .int .i64 0, .int .i64 0, .int .i64 0, .int .i64 0, .int .i64 0, .int .i64 0, .int .i64 0, .int .i64 0, .int .i64 0, .int .i64 0, .int .i64 0, .int .i64 0, .int .i64 0, .int .i64 0, .int .i64 0, .int .i64 0, .int .i64 0, .int .i64 0, .bool false, .int .i64 0, .int .i64 0, .int .i64 0, .slice none 0 0, .slice none 0 0, .slice none 0 0]⟩,
  some ⟨.struct [(0, 58), (61, 58)], 122, 1072, [.int .i64 0, .int .i64 0, .int .i64 0, .int .i64 0, .int .i64 0, .int .i64 0, .int .i64 0, .int .i64 0, .int .i64 0, .int .i64 0, .int .i64 0, .int .i64 0, .int .i64 0, .int .i64 0, .int .i64 0, .int .i64 0, .int .i64 0, .int .i64 0, .int .i64 0, .int .i64 0, .int .i64 0, .int .i64 0, .int .i64 0, .int .i64 0, .int .i64 0, .int .i64 0, .int .i64 0, .int .i64 0, .int .i64 0, .int .i64 0, .int .i64 0, .int .i64 0, .int .i64 0, .int .i64 0, .int .i64 0, .int .i64 0, .int .i64 0, .int .i64 0, .int .i64 0, .int .i64 0, .int .i64 0, .int .i64 0, .int .i64 0, .int .i64 0, .int .i64 0, .int .i64 0, .int .i64 0, .int .i64 0, .int .i64 0, .int .i64 0, .int .i64 0, .int .i64 0, .int .i64 0, .int .i64 0, .bool false, .int .i64 0, .int .i64 0, .int .i64 0, .slice none 0 0, .slice none 0 0, .slice none 0 0, .int .i64 0, .int .i64 0, .int .i64 0, .int .i64 0, .int .i64 0, .int .i64 0, .int .i64 0, .int .i64 0, .int .i64 0, .int .i64 0, .int .i64 0, .int .i64 0, .int .i64 0, .int .i64 0, .int .i64 0, .int .i64 0, .int .i64 0, .int .i64 0, .int .i64 0, .int .i64 0, .int .i64 0, .int .i64 0, .int .i64 0, .int .i64 0, .int .i64 0, .int .i64 0, .int .i64 0, .int .i64 0, .int .i64 0, .int .i64 0, .int .i64 0, .int .i64 0, .int .i64 0, .int .i64 0, .int .i64 0, .int .i64 0, .int .i64 0, .int .i64 0, .int .i64 0, .int .i64 0, .int .i64 0, .int .i64 0, .int .i64 0, .int .i64 0, .int .i64 0, .int .i64 0, .int .i64 0, .int .i64 0, .int .i64 0, .int .i64 0, .int .i64 0, .int .i64 0, .int .i64 0, .int .i64 0, .bool false, .int .i64 0, .int .i64 0, .int .i64 0, .slice none 0 0, .slice none 0 0, .slice none 0 0]⟩,
  none,
  some ⟨.func, 1, 8, [.nilFunc]⟩,
  some ⟨.func, 1, 8, [.nilFunc]⟩,
  some ⟨.slice 61, 1, 24, [.slice none 0 0]⟩,
  some ⟨.func, 1, 8, [.nilFunc]⟩,
  some ⟨.func, 1, 8, [.nilFunc]⟩,
  some ⟨.func, 1, 8, [.nilFunc]⟩,
  some ⟨.func, 1, 8, [.nilFunc]⟩,
  some ⟨.func, 1, 8, [.nilFunc]⟩,
  some ⟨.func, 1, 8, [.nilFunc]⟩,
  some ⟨.int .i64, 1, 8, [.int .i64 0]⟩,
  some ⟨.func, 1, 8, [.nilFunc]⟩,
  some ⟨.func, 1, 8, [.nilFunc]⟩,
  some ⟨.func, 1, 8, [.nilFunc]⟩,
  some ⟨.func, 1, 8, [.nilFunc]⟩,
  some ⟨.func, 1, 8, [.nilFunc]⟩,
  some ⟨.func, 1, 8, [.nilFunc]⟩,
  some ⟨.func, 1, 8, [.nilFunc]⟩,
  some ⟨.map 26 4, 1, 8, [.map none]⟩,
  some ⟨.map 3 3, 1, 8, [.map none]⟩,
  some ⟨.func, 1, 8, [.nilFunc]⟩,
  some ⟨.func, 1, 8, [.nilFunc]⟩,
  some ⟨.slice 3, 1, 24, [.slice none 0 0]⟩,
  some ⟨.func, 1, 8, [.nilFunc]⟩,
  some ⟨.func, 1, 8, [.nilFunc]⟩,
  some ⟨.func, 1, 8, [.nilFunc]⟩,
  some ⟨.func, 1, 8, [.nilFunc]⟩,
  some ⟨.map 53 4, 1, 8, [.map none]⟩,
  some ⟨.func, 1, 8, [.nilFunc]⟩,
  some ⟨.func, 1, 8, [.nilFunc]⟩,
  some ⟨.slice 147, 1, 24, [.slice none 0 0]⟩,
  some ⟨.slice 24, 1, 24, [.slice none 0 0]⟩,
  some ⟨.func, 1, 8, [.nilFunc]⟩,
  some ⟨.func, 1, 8, [.nilFunc]⟩,
  some ⟨.map 122 22, 1, 8, [.map none]⟩,
  some ⟨.map 122 22, 1, 8, [.map none]⟩,
  some ⟨.func, 1, 8, [.nilFunc]⟩,
  some ⟨.func, 1, 8, [.nilFunc]⟩,
  some ⟨.func, 1, 8, [.nilFunc]⟩,
  some ⟨.func, 1, 8, [.nilFunc]⟩,
  some ⟨.func, 1, 8, [.nilFunc]⟩,
  some ⟨.func, 1, 8, [.nilFunc]⟩,
  some ⟨.slice 22, 1, 24, [.slice none 0 0]⟩,
  some ⟨.func, 1, 8, [.nilFunc]⟩,
  some ⟨.func, 1, 8, [.nilFunc]⟩,
  some ⟨.func, 1, 8, [.nilFunc]⟩,
  some ⟨.func, 1, 8, [.nilFunc]⟩,
  some ⟨.func, 1, 8, [.nilFunc]⟩,
  some ⟨.func, 1, 8, [.nilFunc]⟩,
  some ⟨.func, 1, 8, [.nilFunc]⟩,
  some ⟨.func, 1, 8, [.nilFunc]⟩,
  some ⟨.func, 1, 8, [.nilFunc]⟩,
  some ⟨.func, 1, 8, [.nilFunc]⟩,
  some ⟨.func, 1, 8, [.nilFunc]⟩,
  some ⟨.func, 1, 8, [.nilFunc]⟩,
  some ⟨.func, 1, 8, [.nilFunc]⟩,
  some ⟨.func, 1, 8, [.nilFunc]⟩,
  some ⟨.func, 1, 8, [.nilFunc]⟩,
  some ⟨.func, 1, 8, [.nilFunc]⟩,
  some ⟨.struct [(0, 3), (1, 3)], 2, 16, [.int .i64 0, .int .i64 0]⟩,
  some ⟨.struct [(0, 3), (1, 3)], 2, 16, [.int .i64 0, .int .i64 0]⟩,
  some ⟨.func, 1, 8, [.nilFunc]⟩,
  none,
  some ⟨.func, 1, 8, [.nilFunc]⟩,
  some ⟨.func, 1, 8, [.nilFunc]⟩,
  some ⟨.func, 1, 8, [.nilFunc]⟩,
  none,
  some ⟨.func, 1, 8, [.nilFunc]⟩,
  some ⟨.func, 1, 8, [.nilFunc]⟩,
  some ⟨.slice 122, 1, 24, [.slice none 0 0]⟩,
  some ⟨.func, 1, 8, [.nilFunc]⟩,
  some ⟨.func, 1, 8, [.nilFunc]⟩,
  some ⟨.func, 1, 8, [.nilFunc]⟩,
  some ⟨.func, 1, 8, [.nilFunc]⟩,
  some ⟨.func, 1, 8, [.nilFunc]⟩,
  some ⟨.func, 1, 8, [.nilFunc]⟩,
  some ⟨.func, 1, 8, [.nilFunc]⟩,
  some ⟨.int .u64, 1, 8, [.int .u64 0]⟩,
  some ⟨.func, 1, 8, [.nilFunc]⟩,
  some ⟨.func, 1, 8, [.nilFunc]⟩,
  some ⟨.func, 1, 8, [.nilFunc]⟩,
  some ⟨.func, 1, 8, [.nilFunc]⟩,
  some ⟨.array 32 5, 32, 32, [.int .u8 0, .int .u8 0, .int .u8 0, .int .u8 0, .int .u8 0, .int .u8 0, .int .u8 0, .int .u8 0, .int .u8 0, .int .u8 0, .int .u8 0, .int .u8 0, .int .u8 0, .int .u8 0, .int .u8 0, .int .u8 0, .int .u8 0, .int .u8 0, .int .u8 0, .int .u8 0, .int .u8 0, .int .u8 0, .int .u8 0, .int .u8 0, .int .u8 0, .int .u8 0, .int .u8 0, .int .u8 0, .int .u8 0, .int .u8 0, .int .u8 0, .int .u8 0]⟩,
  some ⟨.array 32 5, 32, 32, [.int .u8 0, .int .u8 0, .int .u8 0, .int .u8 0, .int .u8 0, .int .u8 0, .int .u8 0, .int .u8 0, .int .u8 0, .int .u8 0, .int .u8 0, .int .u8 0, .int .u8 0, .int .u8 0, .int .u8 0, .int .u8 0, .int .u8 0, .int .u8 0, .int .u8 0, .int .u8 0, .int .u8 0, .int .u8 0, .int .u8 0, .int .u8 0, .int .u8 0, .int .u8 0, .int .u8 0, .int .u8 0, .int .u8 0, .int .u8 0, .int .u8 0, .int .u8 0]⟩,
  some ⟨.struct [(0, 145), (32, 3)], 33, 40, [.int .u8 0, .int .u8 0, .int .u8 0, .int .u8 0, .int .u8 0, .int .u8 0, .int .u8 0, .int .u8 0, .int .u8 0, .int .u8 0, .int .u8 0, .int .u8 0, .int .u8 0, .int .u8 0, .int .u8 0, .int .u8 0, .int .u8 0, .int .u8 0, .int .u8 0, .int .u8 0, .int .u8 0, .int .u8 0, .int .u8 0, .int .u8 0, .int .u8 0, .int .u8 0, .int .u8 0, .int .u8 0, .int .u8 0, .int .u8 0, .int .u8 0, .int .u8 0, .int .i64 0]⟩,
  some ⟨.struct [(0, 145), (32, 3)], 33, 40, [.int .u8 0, .int .u8 0, .int .u8 0, .int .u8 0, .int .u8 0, .int .u8 0, .int .u8 0, .int .u8 0, .int .u8 0, .int .u8 0, .int .u8 0, .int .u8 0, .int .u8 0, .int .u8 0, .int .u8 0, .int .u8 0, .int .u8 0, .int .u8 0, .int .u8 0, .int .u8 0, .int .u8 0, .int .u8 0, .int .u8 0, .int .u8 0, .int .u8 0, .int .u8 0, .int .u8 0, .int .u8 0, .int .u8 0, .int .u8 0, .int .u8 0, .int .u8 0, .int .i64 0]⟩,
  some ⟨.func, 1, 8, [.nilFunc]⟩,
  some ⟨.func, 1, 8, [.nilFunc]⟩,
  some ⟨.slice 5, 1, 24, [.slice none 0 0]⟩,
  none,
  some ⟨.func, 1, 8, [.nilFunc]⟩,
  some ⟨.func, 1, 8, [.nilFunc]⟩,
  some ⟨.func, 1, 8, [.nilFunc]⟩,
  some ⟨.func, 1, 8, [.nilFunc]⟩,
  some ⟨.slice 168, 1, 24, [.slice none 0 0]⟩,
  some ⟨.struct [(0, 156), (1, 27)], 2, 32, [.slice none 0 0, .nilFunc]⟩,
  some ⟨.struct [(0, 156), (1, 27)], 2, 32, [.slice none 0 0, .nilFunc]⟩,
  none,
  some ⟨.func, 1, 8, [.nilFunc]⟩,
  some ⟨.ptr 53, 1, 8, [.pointer none]⟩,
  some ⟨.ptr 3, 1, 8, [.pointer none]⟩,
  some ⟨.func, 1, 8, [.nilFunc]⟩,
  some ⟨.func, 1, 8, [.nilFunc]⟩,
  some ⟨.struct [(0, 3), (1, 3)], 2, 16, [.int .i64 0, .int .i64 0]⟩,
  some ⟨.struct [(0, 3), (1, 3)], 2, 16, [.int .i64 0, .int .i64 0]⟩,
  some ⟨.struct [(0, 162), (1, 166)], 3, 24, [.pointer none, .int .i64 0, .int .i64 0]⟩,
  some ⟨.struct [(0, 162), (1, 166)], 3, 24, [.pointer none, .int .i64 0, .int .i64 0]⟩,
  some ⟨.func, 1, 8, [.nilFunc]⟩,
  some ⟨.func, 1, 8, [.nilFunc]⟩,
  some ⟨.func, 1, 8, [.nilFunc]⟩,
  some ⟨.func, 1, 8, [.nilFunc]⟩,
  some ⟨.int .i64, 1, 8, [.int .i64 0]⟩,
  none,
  some ⟨.func, 1, 8, [.nilFunc]⟩,
  some ⟨.func, 1, 8, [.nilFunc]⟩,
  some ⟨.func, 1, 8, [.nilFunc]⟩,
  some ⟨.func, 1, 8, [.nilFunc]⟩,
  some ⟨.func, 1, 8, [.nilFunc]⟩,
  some ⟨.func, 1, 8, [.nilFunc]⟩,
  some ⟨.int .u32, 1, 4, [.int .u32 0]⟩,
  some ⟨.func, 1, 8, [.nilFunc]⟩,
  some ⟨.int .u64, 1, 8, [.int .u64 0]⟩,
  some ⟨.func, 1, 8, [.nilFunc]⟩,
  some ⟨.func, 1, 8, [.nilFunc]⟩,
  some ⟨.func, 1, 8, [.nilFunc]⟩,
  some ⟨.func, 1, 8, [.nilFunc]⟩,
  some ⟨.func, 1, 8, [.nilFunc]⟩,
  some ⟨.slice 191, 1, 24, [.slice none 0 0]⟩,
  some ⟨.struct [(0, 3), (1, 3), (2, 9), (3, 189)], 4, 56, [.int .i64 0, .int .i64 0, .string { data := #[] }, .slice none 0 0]⟩,
  some ⟨.struct [(0, 3), (1, 3), (2, 9), (3, 189)], 4, 56, [.int .i64 0, .int .i64 0, .string { data := #[] }, .slice none 0 0]⟩,
  some ⟨.func, 1, 8, [.nilFunc]⟩,
  some ⟨.ptr 31, 1, 8, [.pointer none]⟩,
  some ⟨.ptr 33, 1, 8, [.pointer none]⟩,
  some ⟨.ptr 35, 1, 8, [.pointer none]⟩,
  some ⟨.ptr 37, 1, 8, [.pointer none]⟩,
  some ⟨.ptr 39, 1, 8, [.pointer none]⟩,
  some ⟨.ptr 41, 1, 8, [.pointer none]⟩,
  some ⟨.ptr 43, 1, 8, [.pointer none]⟩,
  some ⟨.ptr 45, 1, 8, [.pointer none]⟩,
  some ⟨.ptr 47, 1, 8, [.pointer none]⟩,
  some ⟨.ptr 49, 1, 8, [.pointer none]⟩,
  some ⟨.func, 1, 8, [.nilFunc]⟩,
  some ⟨.func, 1, 8, [.nilFunc]⟩,
  some ⟨.func, 1, 8, [.nilFunc]⟩,
  some ⟨.func, 1, 8, [.nilFunc]⟩,
  some ⟨.func, 1, 8, [.nilFunc]⟩,
  some ⟨.func, 1, 8, [.nilFunc]⟩,
  some ⟨.func, 1, 8, [.nilFunc]⟩,
  some ⟨.func, 1, 8, [.nilFunc]⟩,
  some ⟨.int .u64, 1, 8, [.int .u64 0]⟩,
  some ⟨.func, 1, 8, [.nilFunc]⟩,
  some ⟨.func, 1, 8, [.nilFunc]⟩,
  some ⟨.func, 1, 8, [.nilFunc]⟩,
  some ⟨.func, 1, 8, [.nilFunc]⟩,
  some ⟨.func, 1, 8, [.nilFunc]⟩,
  some ⟨.func, 1, 8, [.nilFunc]⟩,
  some ⟨.func, 1, 8, [.nilFunc]⟩,
  some ⟨.func, 1, 8, [.nilFunc]⟩,
  some ⟨.func, 1, 8, [.nilFunc]⟩,
  some ⟨.array 64 4, 64, 64, [.bool false, .bool false, .bool false, .bool false, .bool false, .bool false, .bool false, .bool false, .bool false, .bool false, .bool false, .bool false, .bool false, .bool false, .bool false, .bool false, .bool false, .bool false, .bool false, .bool false, .bool false, .bool false, .bool false, .bool false, .bool false, .bool false, .bool false, .bool false, .bool false, .bool false, .bool false, .bool false, .bool false, .bool false, .bool false, .bool false, .bool false, .bool false, .bool false, .bool false, .bool false, .bool false, .bool false, .bool false, .bool false, .bool false, .bool false, .bool false, .bool false, .bool false, .bool false, .bool false, .bool false, .bool false, .bool false, .bool false, .bool false, .bool false, .bool false, .bool false, .bool false, .bool false, .bool false, .bool false]⟩,
  some ⟨.array 64 4, 64, 64, [.bool false, .bool false, .bool false, .bool false, .bool false, .bool false, .bool false, .bool false, .bool false, .bool false, .bool false, .bool false, .bool false, .bool false, .bool false, .bool false, .bool false, .bool false, .bool false, .bool false, .bool false, .bool false, .bool false, .bool false, .bool false, .bool false, .bool false, .bool false, .bool false, .bool false, .bool false, .bool false, .bool false, .bool false, .bool false, .bool false, .bool false, .bool false, .bool false, .bool false, .bool false, .bool false, .bool false, .bool false, .bool false, .bool false, .bool false, .bool false, .bool false, .bool false, .bool false, .bool false, .bool false, .bool false, .bool false, .bool false, .bool false, .bool false, .bool false, .bool false, .bool false, .bool false, .bool false, .bool false]⟩,
  some ⟨.func, 1, 8, [.nilFunc]⟩,
  some ⟨.func, 1, 8, [.nilFunc]⟩,
  some ⟨.func, 1, 8, [.nilFunc]⟩,
  none,
  some ⟨.func, 1, 8, [.nilFunc]⟩,
  some ⟨.func, 1, 8, [.nilFunc]⟩,
  some ⟨.func, 1, 8, [.nilFunc]⟩,
  some ⟨.func, 1, 8, [.nilFunc]⟩,
  some ⟨.func, 1, 8, [.nilFunc]⟩,
  some ⟨.struct [(0, 231)], 1, 8, [.nilFunc]⟩,
  some ⟨.struct [(0, 231)], 1, 8, [.nilFunc]⟩,
  some ⟨.ptr 254, 1, 8, [.pointer none]⟩,
  some ⟨.func, 1, 8, [.nilFunc]⟩,
  some ⟨.func, 1, 8, [.nilFunc]⟩,
  some ⟨.func, 1, 8, [.nilFunc]⟩,
  some ⟨.func, 1, 8, [.nilFunc]⟩,
  some ⟨.func, 1, 8, [.nilFunc]⟩,
  some ⟨.func, 1, 8, [.nilFunc]⟩,
  some ⟨.ptr 211, 1, 8, [.pointer none]⟩,
  none,
  some ⟨.func, 1, 8, [.nilFunc]⟩,
  some ⟨.func, 1, 8, [.nilFunc]⟩,
  some ⟨.func, 1, 8, [.nilFunc]⟩,
  some ⟨.func, 1, 8, [.nilFunc]⟩,
  some ⟨.func, 1, 8, [.nilFunc]⟩,
  some ⟨.slice 4, 1, 24, [.slice none 0 0]⟩,
  some ⟨.func, 1, 8, [.nilFunc]⟩,
  some ⟨.func, 1, 8, [.nilFunc]⟩,
  some ⟨.func, 1, 8, [.nilFunc]⟩,
  some ⟨.func, 1, 8, [.nilFunc]⟩,
  some ⟨.array 4 233, 4, 32, [.nilFunc, .nilFunc, .nilFunc, .nilFunc]⟩,
  some ⟨.array 4 233, 4, 32, [.nilFunc, .nilFunc, .nilFunc, .nilFunc]⟩,
  some ⟨.func, 1, 8, [.nilFunc]⟩,
  some ⟨.func, 1, 8, [.nilFunc]⟩,
  some ⟨.func, 1, 8, [.nilFunc]⟩,
  some ⟨.func, 1, 8, [.nilFunc]⟩,
  some ⟨.func, 1, 8, [.nilFunc]⟩,
  some ⟨.func, 1, 8, [.nilFunc]⟩,
  some ⟨.slice 150, 1, 24, [.slice none 0 0]⟩,
  some ⟨.func, 1, 8, [.nilFunc]⟩,
  some ⟨.array 8 181, 8, 32, [.int .u32 0, .int .u32 0, .int .u32 0, .int .u32 0, .int .u32 0, .int .u32 0, .int .u32 0, .int .u32 0]⟩,
  some ⟨.func, 1, 8, [.nilFunc]⟩,
  some ⟨.ptr 263, 1, 8, [.pointer none]⟩,
  some ⟨.array 4 4, 4, 4, [.bool false, .bool false, .bool false, .bool false]⟩,
  some ⟨.func, 1, 8, [.nilFunc]⟩,
  some ⟨.func, 1, 8, [.nilFunc]⟩,
  some ⟨.func, 1, 8, [.nilFunc]⟩,
  some ⟨.array 16 181, 16, 64, [.int .u32 0, .int .u32 0, .int .u32 0, .int .u32 0, .int .u32 0, .int .u32 0, .int .u32 0, .int .u32 0, .int .u32 0, .int .u32 0, .int .u32 0, .int .u32 0, .int .u32 0, .int .u32 0, .int .u32 0, .int .u32 0]⟩,
  some ⟨.array 16 181, 16, 64, [.int .u32 0, .int .u32 0, .int .u32 0, .int .u32 0, .int .u32 0, .int .u32 0, .int .u32 0, .int .u32 0, .int .u32 0, .int .u32 0, .int .u32 0, .int .u32 0, .int .u32 0, .int .u32 0, .int .u32 0, .int .u32 0]⟩,
  some ⟨.slice 181, 1, 24, [.slice none 0 0]⟩,
  some ⟨.func, 1, 8, [.nilFunc]⟩,
  some ⟨.array 16 5, 16, 16, [.int .u8 0, .int .u8 0, .int .u8 0, .int .u8 0, .int .u8 0, .int .u8 0, .int .u8 0, .int .u8 0, .int .u8 0, .int .u8 0, .int .u8 0, .int .u8 0, .int .u8 0, .int .u8 0, .int .u8 0, .int .u8 0]⟩,
  some ⟨.array 10 274, 160, 160, [.int .u8 0, .int .u8 0, .int .u8 0, .int .u8 0, .int .u8 0, .int .u8 0, .int .u8 0, .int .u8 0, .int .u8 0, .int .u8 0, .int .u8 0, .int .u8 0, .int .u8 0, .int .u8 0, .int .u8 0, .int .u8 0, .int .u8 0, .int .u8 0, .int .u8 0, .int .u8 0, .int .u8 0, .int .u8 0, .int .u8 0, .int .u8 0, .int .u8 0, .int .u8 0, .int .u8 0, .int .u8 0, .int .u8 0, .int .u8 0, .int .u8 0, .int .u8 0, .int .u8 0, .int .u8 0, .int .u8 0, .int .u8 0, .int .u8 0, .int .u8 0, .int .u8 0, .int .u8 0, .int .u8 0, .int .u8 0, .int .u8 0, .int .u8 0, .int .u8 0, .int .u8 0, .int .u8 0, .int .u8 0, .int .u8 0, .int .u8 0, .int .u8 0, .int .u8 0, .int .u8 0, .int .u8 0, .int .u8 0, .int .u8 0, .int .u8 0, .int .u8 0, .int .u8 0, .int .u8 0, .int .u8 0, .int .u8 0, .int .u8 0, .int .u8 0, .int .u8 0, .int .u8 0, .int .u8 0, .int .u8 0, .int .u8 0, .int .u8 0, .int .u8 0, .int .u8 0, .int .u8 0, .int .u8 0, .int .u8 0, .int .u8 0, .int .u8 0, .int .u8 0, .int .u8 0, .int .u8 0, .int .u8 0, .int .u8 0, .int .u8 0, .int .u8 0, .int .u8 0, .int .u8 0, .int .u8 0, .int .u8 0, .int .u8 0, .int .u8 0, .int .u8 0, .int .u8 0, .int .u8 0, .int .u8 0, .int .u8 0, .int .u8 0, .int .u8 0, .int .u8 0, .int .u8 0, .int .u8 0, .int .u8 0, .int .u8 0, .int .u8 0, .int .u8 0, .int .u8 0, .int .u8 0, .int .u8 0, .int .u8 0, .int .u8 0, .int .u8 0, .int .u8 0, .int .u8 0, .int .u8 0, .int .u8 0, .int .u8 0, .int .u8 0, .int .u8 0, .int .u8 0, .int .u8 0, .int .u8 0, .int .u8 0, .int .u8 0, .int .u8 0, .int .u8 0, .int .u8 0, .int .u8 0, .int .u8 0, .int .u8 0, .int .u8 0, .int .u8 0, .int .u8 0, .int .u8 0, .int .u8 0, .int .u8 0, .int .u8 0, .int .u8 0, .int .u8 0, .int .u8 0, .int .u8 0, .int .u8 0, .int .u8 0, .int .u8 0, .int .u8 0, .int .u8 0, .int .u8 0, .int .u8 0, .int .u8 0, .int .u8 0, .int .u8 0, .int .u8 0, .int .u8 0, .int .u8 0, .int .u8 0, .int .u8 0, .int .u8 0, .int .u8 0, .int .u8 0, .int .u8 0, .int .u8 0, .int .u8 0]⟩,
  some ⟨.ptr 271, 1, 8, [.pointer none]⟩,
  some ⟨.func, 1, 8, [.nilFunc]⟩,
  some ⟨.func, 1, 8, [.nilFunc]⟩,
  some ⟨.struct [(0, 17), (1, 17), (2, 17), (3, 9)], 4, 40, [.pointer none, .pointer none, .pointer none, .string { data := #[] }]⟩,
  some ⟨.struct [(0, 17), (1, 17), (2, 17), (3, 9)], 4, 40, [.pointer none, .pointer none, .pointer none, .string { data := #[] }]⟩,
  some ⟨.array 0 16, 0, 0, []⟩,
  some ⟨.struct [(0, 281)], 0, 0, []⟩,
  some ⟨.struct [(0, 281)], 0, 0, []⟩,
  some ⟨.func, 1, 8, [.nilFunc]⟩,
  some ⟨.int .u8, 1, 1, [.int .u8 0]⟩,
  some ⟨.int .u8, 1, 1, [.int .u8 0]⟩,
  some ⟨.func, 1, 8, [.nilFunc]⟩,
  some ⟨.ptr 5, 1, 8, [.pointer none]⟩,
  some ⟨.int .i32, 1, 4, [.int .i32 0]⟩,
  some ⟨.int .i32, 1, 4, [.int .i32 0]⟩,
  some ⟨.struct [(0, 12), (1, 12), (2, 181), (3, 285), (4, 5), (5, 5), (6, 286), (7, 287), (8, 288), (9, 289), (10, 290)], 11, 48, [.int .u64 0, .int .u64 0, .int .u32 0, .int .u8 0, .int .u8 0, .int .u8 0, .int .u8 0, .nilFunc, .pointer none, .int .i32 0, .int .i32 0]⟩,
  some ⟨.struct [(0, 12), (1, 12), (2, 181), (3, 285), (4, 5), (5, 5), (6, 286), (7, 287), (8, 288), (9, 289), (10, 290)], 11, 48, [.int .u64 0, .int .u64 0, .int .u32 0, .int .u8 0, .int .u8 0, .int .u8 0, .int .u8 0, .nilFunc, .pointer none, .int .i32 0, .int .i32 0]⟩]
def Tryz.τ : Tab := fun T => Tryz.tL[T]?.bind id

def AllOk (P : Program) : Nat → List (Option TE) → Prop
  | _, [] => True
  | n, none :: l => AllOk P (n + 1) l
  | n, some e :: l => TyOk P n e ∧ AllOk P (n + 1) l
theorem AllOk.at {P : Program} : ∀ (l : List (Option TE)) (n i : Nat) (e : TE), AllOk P n l → l[i]? = some (some e) → TyOk P (n + i) e
  | [], _, _, _, _, h => by simp at h
  | none :: l, n, 0, _, _, h => by simp at h
  | none :: l, n, i + 1, e, h, hi => by have := AllOk.at l (n + 1) i e h (by simpa using hi); rwa [Nat.add_assoc, Nat.add_comm 1 i] at this
  | some d :: l, n, 0, e, h, hi => by simp at hi; subst hi; exact h.1
  | some d :: l, n, i + 1, e, h, hi => by have := AllOk.at l (n + 1) i e h.2 (by simpa using hi); rwa [Nat.add_assoc, Nat.add_comm 1 i] at this
@[simp] theorem Tryz.τ1 : Tryz.τ 1 = some ⟨.func, 1, 8, [.nilFunc]⟩ := rfl
@[simp] theorem Tryz.τ2 : Tryz.τ 2 = some ⟨.int .i64, 1, 8, [.int .i64 0]⟩ := rfl
@[simp] theorem Tryz.τ3 : Tryz.τ 3 = some ⟨.int .i64, 1, 8, [.int .i64 0]⟩ := rfl
@[simp] theorem Tryz.τ4 : Tryz.τ 4 = some ⟨.bool, 1, 1, [.bool false]⟩ := rfl
@[simp] theorem Tryz.τ5 : Tryz.τ 5 = some ⟨.int .u8, 1, 1, [.int .u8 0]⟩ := rfl
@[simp] theorem Tryz.τ6 : Tryz.τ 6 = some ⟨.int .u8, 1, 1, [.int .u8 0]⟩ := rfl
@[simp] theorem Tryz.τ7 : Tryz.τ 7 = some ⟨.struct [(0, 2), (1, 3), (2, 4), (3, 6)], 4, 24, [.int .i64 0, .int .i64 0, .bool false, .int .u8 0]⟩ := rfl
@[simp] theorem Tryz.τ8 : Tryz.τ 8 = some ⟨.struct [(0, 2), (1, 3), (2, 4), (3, 6)], 4, 24, [.int .i64 0, .int .i64 0, .bool false, .int .u8 0]⟩ := rfl
@[simp] theorem Tryz.τ9 : Tryz.τ 9 = some ⟨.string, 1, 16, [.string { data := #[] }]⟩ := rfl
@[simp] theorem Tryz.τ10 : Tryz.τ 10 = some ⟨.string, 1, 16, [.string { data := #[] }]⟩ := rfl
@[simp] theorem Tryz.τ11 : Tryz.τ 11 = some ⟨.string, 1, 16, [.string { data := #[] }]⟩ := rfl
@[simp] theorem Tryz.τ12 : Tryz.τ 12 = some ⟨.int .u64, 1, 8, [.int .u64 0]⟩ := rfl
@[simp] theorem Tryz.τ13 : Tryz.τ 13 = some ⟨.struct [(0, 9), (1, 12)], 2, 24, [.string { data := #[] }, .int .u64 0]⟩ := rfl
@[simp] theorem Tryz.τ14 : Tryz.τ 14 = some ⟨.struct [(0, 9), (1, 12)], 2, 24, [.string { data := #[] }, .int .u64 0]⟩ := rfl
@[simp] theorem Tryz.τ15 : Tryz.τ 15 = some ⟨.ptr 280, 1, 8, [.pointer none]⟩ := rfl
@[simp] theorem Tryz.τ16 : Tryz.τ 16 = some ⟨.ptr 283, 1, 8, [.pointer none]⟩ := rfl
@[simp] theorem Tryz.τ17 : Tryz.τ 17 = some ⟨.ptr 292, 1, 8, [.pointer none]⟩ := rfl
@[simp] theorem Tryz.τ18 : Tryz.τ 18 = some ⟨.struct [(0, 17)], 1, 8, [.pointer none]⟩ := rfl
@[simp] theorem Tryz.τ19 : Tryz.τ 19 = some ⟨.struct [(0, 17)], 1, 8, [.pointer none]⟩ := rfl
@[simp] theorem Tryz.τ20 : Tryz.τ 20 = some ⟨.iface, 1, 16, [.nilIface]⟩ := rfl
@[simp] theorem Tryz.τ21 : Tryz.τ 21 = some ⟨.int .i32, 1, 4, [.int .i32 0]⟩ := rfl
@[simp] theorem Tryz.τ22 : Tryz.τ 22 = some ⟨.slice 58, 1, 24, [.slice none 0 0]⟩ := rfl
@[simp] theorem Tryz.τ23 : Tryz.τ 23 = some ⟨.struct [(0, 22)], 1, 24, [.slice none 0 0]⟩ := rfl
@[simp] theorem Tryz.τ24 : Tryz.τ 24 = some ⟨.struct [(0, 22)], 1, 24, [.slice none 0 0]⟩ := rfl
@[simp] theorem Tryz.τ25 : Tryz.τ 25 = some ⟨.struct [(0, 3), (1, 3)], 2, 16, [.int .i64 0, .int .i64 0]⟩ := rfl
@[simp] theorem Tryz.τ26 : Tryz.τ 26 = some ⟨.struct [(0, 3), (1, 3)], 2, 16, [.int .i64 0, .int .i64 0]⟩ := rfl
@[simp] theorem Tryz.τ27 : Tryz.τ 27 = some ⟨.func, 1, 8, [.nilFunc]⟩ := rfl
@[simp] theorem Tryz.τ28 : Tryz.τ 28 = some ⟨.func, 1, 8, [.nilFunc]⟩ := rfl
@[simp] theorem Tryz.τ29 : Tryz.τ 29 = some ⟨.slice 26, 1, 24, [.slice none 0 0]⟩ := rfl
@[simp] theorem Tryz.τ30 : Tryz.τ 30 = some ⟨.struct [(0, 3), (1, 3), (2, 3), (3, 3), (4, 3), (5, 3), (6, 3), (7, 3)], 8, 64, [.int .i64 0, .int .i64 0, .int .i64 0, .int .i64 0, .int .i64 0, .int .i64 0, .int .i64 0, .int .i64 0]⟩ := rfl
@[simp] theorem Tryz.τ31 : Tryz.τ 31 = some ⟨.struct [(0, 3), (1, 3), (2, 3), (3, 3), (4, 3), (5, 3), (6, 3), (7, 3)], 8, 64, [.int .i64 0, .int .i64 0, .int .i64 0, .int .i64 0, .int .i64 0, .int .i64 0, .int .i64 0, .int .i64 0]⟩ := rfl
@[simp] theorem Tryz.τ32 : Tryz.τ 32 = some ⟨.struct [(0, 3), (1, 3), (2, 3), (3, 3)], 4, 32, [.int .i64 0, .int .i64 0, .int .i64 0, .int .i64 0]⟩ := rfl
@[simp] theorem Tryz.τ33 : Tryz.τ 33 = some ⟨.struct [(0, 3), (1, 3), (2, 3), (3, 3)], 4, 32, [.int .i64 0, .int .i64 0, .int .i64 0, .int .i64 0]⟩ := rfl
@[simp] theorem Tryz.τ34 : Tryz.τ 34 = some ⟨.struct [(0, 3), (1, 3), (2, 3), (3, 3), (4, 3)], 5, 40, [.int .i64 0, .int .i64 0, .int .i64 0, .int .i64 0, .int .i64 0]⟩ := rfl
@[simp] theorem Tryz.τ35 : Tryz.τ 35 = some ⟨.struct [(0, 3), (1, 3), (2, 3), (3, 3), (4, 3)], 5, 40, [.int .i64 0, .int .i64 0, .int .i64 0, .int .i64 0, .int .i64 0]⟩ := rfl
@[simp] theorem Tryz.τ36 : Tryz.τ 36 = some ⟨.struct [(0, 3), (1, 3), (2, 3), (3, 3), (4, 3), (5, 3), (6, 3), (7, 3)], 8, 64, [.int .i64 0, .int .i64 0, .int .i64 0, .int .i64 0, .int .i64 0, .int .i64 0, .int .i64 0, .int .i64 0]⟩ := rfl
@[simp] theorem Tryz.τ37 : Tryz.τ 37 = some ⟨.struct [(0, 3), (1, 3), (2, 3), (3, 3), (4, 3), (5, 3), (6, 3), (7, 3)], 8, 64, [.int .i64 0, .int .i64 0, .int .i64 0, .int .i64 0, .int .i64 0, .int .i64 0, .int .i64 0, .int .i64 0]⟩ := rfl
@[simp] theorem Tryz.τ38 : Tryz.τ 38 = some ⟨.struct [(0, 3), (1, 3), (2, 3), (3, 3)], 4, 32, [.int .i64 0, .int .i64 0, .int .i64 0, .int .i64 0]⟩ := rfl
@[simp] theorem Tryz.τ39 : Tryz.τ 39 = some ⟨.struct [(0, 3), (1, 3), (2, 3), (3, 3)], 4, 32, [.int .i64 0, .int .i64 0, .int .i64 0, .int .i64 0]⟩ := rfl
@[simp] theorem Tryz.τ40 : Tryz.τ 40 = some ⟨.struct [(0, 3), (1, 3), (2, 3), (3, 3)], 4, 32, [.int .i64 0, .int .i64 0, .int .i64 0, .int .i64 0]⟩ := rfl
@[simp] theorem Tryz.τ41 : Tryz.τ 41 = some ⟨.struct [(0, 3), (1, 3), (2, 3), (3, 3)], 4, 32, [.int .i64 0, .int .i64 0, .int .i64 0, .int .i64 0]⟩ := rfl
@[simp] theorem Tryz.τ42 : Tryz.τ 42 = some ⟨.struct [(0, 3), (1, 3)], 2, 16, [.int .i64 0, .int .i64 0]⟩ := rfl
@[simp] theorem Tryz.τ43 : Tryz.τ 43 = some ⟨.struct [(0, 3), (1, 3)], 2, 16, [.int .i64 0, .int .i64 0]⟩ := rfl
@[simp] theorem Tryz.τ44 : Tryz.τ 44 = some ⟨.struct [(0, 3), (1, 3), (2, 3), (3, 3)], 4, 32, [.int .i64 0, .int .i64 0, .int .i64 0, .int .i64 0]⟩ := rfl
@[simp] theorem Tryz.τ45 : Tryz.τ 45 = some ⟨.struct [(0, 3), (1, 3), (2, 3), (3, 3)], 4, 32, [.int .i64 0, .int .i64 0, .int .i64 0, .int .i64 0]⟩ := rfl
@[simp] theorem Tryz.τ46 : Tryz.τ 46 = some ⟨.struct [(0, 3), (1, 3), (2, 3), (3, 3)], 4, 32, [.int .i64 0, .int .i64 0, .int .i64 0, .int .i64 0]⟩ := rfl
@[simp] theorem Tryz.τ47 : Tryz.τ 47 = some ⟨.struct [(0, 3), (1, 3), (2, 3), (3, 3)], 4, 32, [.int .i64 0, .int .i64 0, .int .i64 0, .int .i64 0]⟩ := rfl
@[simp] theorem Tryz.τ48 : Tryz.τ 48 = some ⟨.struct [(0, 3), (1, 3), (2, 3), (3, 3), (4, 3), (5, 3)], 6, 48, [.int .i64 0, .int .i64 0, .int .i64 0, .int .i64 0, .int .i64 0, .int .i64 0]⟩ := rfl
@[simp] theorem Tryz.τ49 : Tryz.τ 49 = some ⟨.struct [(0, 3), (1, 3), (2, 3), (3, 3), (4, 3), (5, 3)], 6, 48, [.int .i64 0, .int .i64 0, .int .i64 0, .int .i64 0, .int .i64 0, .int .i64 0]⟩ := rfl
@[simp] theorem Tryz.τ50 : Tryz.τ 50 = some ⟨.struct [(0, 3), (1, 4)], 2, 16, [.int .i64 0, .bool false]⟩ := rfl
@[simp] theorem Tryz.τ51 : Tryz.τ 51 = some ⟨.struct [(0, 3), (1, 4)], 2, 16, [.int .i64 0, .bool false]⟩ := rfl
@[simp] theorem Tryz.τ52 : Tryz.τ 52 = some ⟨.struct [(0, 3), (1, 3), (2, 3), (3, 3), (4, 31), (12, 33), (16, 35), (21, 37), (29, 39), (33, 41), (37, 43), (39, 45), (43, 47), (47, 49), (53, 51), (55, 26)], 57, 456, [.int .i64 0, .int .i64 0, .int .i64 0, .int .i64 0, .int .i64 0, .int .i64 0, .int .i64 0, .int .i64 0, .int .i64 0, .int .i64 0, .int .i64 0, .int .i64 0, .int .i64 0, .int .i64 0, .int .i64 0, .int .i64 0, .int .i64 0, .int .i64 0, .int .i64 0, .int .i64 0, .int .i64 0, .int .i64 0, .int .i64 0, .int .i64 0, .int .i64 0, .int .i64 0, .int .i64 0, .int .i64 0, .int .i64 0, .int .i64 0, .int .i64 0, .int .i64 0, .int .i64 0, .int .i64 0, .int .i64 0, .int .i64 0, .int .i64 0, .int .i64 0, .int .i64 0, .int .i64 0, .int .i64 0, .int .i64 0, .int .i64 0, .int .i64 0, .int .i64 0, .int .i64 0, .int .i64 0, .int .i64 0, .int .i64 0, .int .i64 0, .int .i64 0, .int .i64 0, .int .i64 0, .int .i64 0, .bool false, .int .i64 0, .int .i64 0]⟩ := rfl
@[simp] theorem Tryz.τ53 : Tryz.τ 53 = some ⟨.struct [(0, 3), (1, 3), (2, 3), (3, 3), (4, 31), (12, 33), (16, 35), (21, 37), (29, 39), (33, 41), (37, 43), (39, 45), (43, 47), (47, 49), (53, 51), (55, 26)], 57, 456, [.int .i64 0, .int .i64 0, .int .i64 0, .int .i64 0, .int .i64 0, .int .i64 0, .int .i64 0, .int .i64 0, .int .i64 0, .int .i64 0, .int .i64 0, .int .i64 0, .int .i64 0, .int .i64 0, .int .i64 0, .int .i64 0, .int .i64 0, .int .i64 0, .int .i64 0, .int .i64 0, .int .i64 0, .int .i64 0, .int .i64 0, .int .i64 0, .int .i64 0, .int .i64 0, .int .i64 0, .int .i64 0, .int .i64 0, .int .i64 0, .int .i64 0, .int .i64 0, .int .i64 0, .int .i64 0, .int .i64 0, .int .i64 0, .int .i64 0, .int .i64 0, .int .i64 0, .int .i64 0, .int .i64 0, .int .i64 0, .int .i64 0, .int .i64 0, .int .i64 0, .int .i64 0, .int .i64 0, .int .i64 0, .int .i64 0, .int .i64 0, .int .i64 0, .int .i64 0, .int .i64 0, .int .i64 0, .bool false, .int .i64 0, .int .i64 0]⟩ := rfl
@[simp] theorem Tryz.τ54 : Tryz.τ 54 = some ⟨.slice 145, 1, 24, [.slice none 0 0]⟩ := rfl
@[simp] theorem Tryz.τ55 : Tryz.τ 55 = some ⟨.struct [(0, 3), (1, 54), (2, 54), (3, 54)], 4, 80, [.int .i64 0, .slice none 0 0, .slice none 0 0, .slice none 0 0]⟩ := rfl
@[simp] theorem Tryz.τ56 : Tryz.τ 56 = some ⟨.struct [(0, 3), (1, 54), (2, 54), (3, 54)], 4, 80, [.int .i64 0, .slice none 0 0, .slice none 0 0, .slice none 0 0]⟩ := rfl
@[simp] theorem Tryz.τ57 : Tryz.τ 57 = some ⟨.struct [(0, 53), (57, 56)], 61, 536, [.int .i64 0, .int .i64 0, .int .i64 0, .int .i64 0, .int .i64 0, .int .i64 0, .int .i64 0, .int .i64 0, .int .i64 0, .int .i64 0, .int .i64 0, .int .i64 0, .int .i64 0, .int .i64 0, .int .i64 0, .int .i64 0, .int .i64 0, .int .i64 0, .int .i64 0, .int .i64 0, .int .i64 0, .int .i64 0, .int .i64 0, .int .i64 0, .int .i64 0, .int .i64 0, .int .i64 0, .int .i64 0, .int .i64 0, .int .i64 0, .int .i64 0, .int .i64 0, .int .i64 0, .int .i64 0, .int .i64 0, .int .i64 0, .int .i64 0, .int .i64 0, .int .i64 0, .int .i64 0, .int .i64 0, .int .i64 0, .int .i64 0, .int .i64 0, .int .i64 0, .int .i64 0, .int .i64 0, .int .i64 0, .int .i64 0, .int .i64 0, .int .i64 0, .int .i64 0, .int .i64 0, .int .i64 0, .bool false, .int .i64 0, .int .i64 0, .int .i64 0, .slice none 0 0, .slice none 0 0, .slice none 0 0]⟩ := rfl
@[simp] theorem Tryz.τ58 : Tryz.τ 58 = some ⟨.struct [(0, 53), (57, 56)], 61, 536, [.int .i64 0, .int .i64 0, .int .i64 0, .int .i64 0, .int .i64 0, .int .i64 0, .int .i64 0, .int .i64 0, .int .i64 0, .int .i64 0, .int .i64 0, .int .i64 0, .int .i64 0, .int .i64 0, .int .i64 0, .int .i64 0, .int .i64 0, .int .i64 0, .int .i64 0, .int .i64 0, .int .i64 0, .int .i64 0, .int .i64 0, .int .i64 0, .int .i64 0, .int .i64 0, .int .i64 0, .int .i64 0, .int .i64 0, .int .i64 0, .int .i64 0, .int .i64 0, .int .i64 0, .int .i64 0, .int .i64 0, .int .i64 0, .int .i64 0, .int .i64 0, .int .i64 0, .int .i64 0, .int .i64 0, .int .i64 0, .int .i64 0, .int .i64 0, .int .i64 0, .int .i64 0, .int .i64 0, .int .i64 0, .int .i64 0, .int .i64 0, .int .i64 0, .int .i64 0, .int .i64 0, .int .i64 0, .bool false, .int .i64 0, .int .i64 0, .int .i64 0, .slice none 0 0, .slice none 0 0, .slice none 0 0]⟩ := rfl
@[simp] theorem Tryz.τ59 : Tryz.τ 59 = some ⟨.func, 1, 8, [.nilFunc]⟩ := rfl
@[simp] theorem Tryz.τ60 : Tryz.τ 60 = some ⟨.struct [(0, 58), (61, 58)], 122, 1072, [.int .i64 0, .int .i64 0, .int .i64 0, .int .i64 0, .int .i64 0, .int .i64 0, .int .i64 0, .int .i64 0, .int .i64 0, .int .i64 0, .int .i64 0, .int .i64 0, .int .i64 0, .int .i64 0, .int .i64 0, .int .i64 0, .int .i64 0, .int .i64 0, .int .i64 0, .int .i64 0, .int .i64 0, .int .i64 0, .int .i64 0, .int .i64 0, .int .i64 0, .int .i64 0, .int .i64 0, .int .i64 0, .int .i64 0, .int .i64 0, .int .i64 0, .int .i64 0, .int .i64 0, .int .i64 0, .int .i64 0, .int .i64 0, .int .i64 0, .int .i64 0, .int .i64 0, .int .i64 0, .int .i64 0, .int .i64 0, .int .i64 0, .int .i64 0, .int .i64 0, .int .i64 0, .int .i64 0, .int .i64 0, .int .i64 0, .int .i64 0, .int .i64 0, .int .i64 0, .int .i64 0, .int .i64 0, .bool false, .int .i64 0, .int .i64 0, .int .i64 0, .slice none 0 0, .slice none 0 0, .slice none 0 0, .int .i64 0, .int .i64 0, .int .i64 0, .int .i64 0, .int .i64 0, .int .i64 0, .int .i64 0, .int .i64 0, .int .i64 0, .int .i64 0, .int .i64 0, .int .i64 0, .int .i64 0, .int .i64 0, .int .i64 0, .int .i64 0, .int .i64 0, .int .i64 0, .int .i64 0, .int .i64 0, .int .i64 0, .int .i64 0, .int .i64 0, .int .i64 0, .int .i64 0, .int .i64 0, .int .i64 0, .int .i64 0, .int .i64 0, .int .i64 0, .int .i64 0, .int .i64 0, .int .i64 0, .int .i64 0, .int .i64 0, .int .i64 0, .int .i64 0, .int .i64 0, .int .i64 0, .int .i64 0, .int .i64 0, .int .i64 0, .int .i64 0, .int .i64 0, .int .i64 0, .int .i64 0, .int .i64 0, .int .i64 0, .int .i64 0, .int .i64 0, .int .i64 0, .int .i64 0, .int .i64 0, .int .i64 0, .bool false, .int .i64 0, .int .i64 0, .int .i64 0, .slice none 0 0, .slice none 0 0, .slice none 0 0]⟩ := rfl
@[simp] theorem Tryz.τ61 : Tryz.τ 61 = some ⟨.struct [(0, 58), (61, 58)], 122, 1072, [.int .i64 0, .int .i64 0, .int .i64 0, .int .i64 0, .int .i64 0, .int .i64 0, .int .i64 0, .int .i64 0, .int .i64 0, .int .i64 0, .int .i64 0, .int .i64 0, .int .i64 0, .int .i64 0, .int .i64 0, .int .i64 0, .int .i64 0, .int .i64 0, .int .i64 0, .int .i64 0, .int .i64 0, .int .i64 0, .int .i64 0, .int .i64 0, .int .i64 0, .int .i64 0, .int .i64 0, .int .i64 0, .int .i64 0, .int .i64 0, .int .i64 0, .int .i64 0, .int .i64 0, .int .i64 0, .int .i64 0, .int .i64 0, .int .i64 0, .int .i64 0, .int .i64 0, .int .i64 0, .int .i64 0, .int .i64 0, .int .i64 0, .int .i64 0, .int .i64 0, .int .i64 0, .int .i64 0, .int .i64 0, .int .i64 0, .int .i64 0, .int .i64 0, .int .i64 0, .int .i64 0, .int .i64 0, .bool false, .int .i64 0, .int .i64 0, .int .i64 0, .slice none 0 0, .slice none 0 0, .slice none 0 0, .int .i64 0, .int .i64 0, .int .i64 0, .int .i64 0, .int .i64 0, .int .i64 0, .int .i64 0, .int .i64 0, .int .i64 0, .int .i64 0, .int .i64 0, .int .i64 0, .int .i64 0, .int .i64 0, .int .i64 0, .int .i64 0, .int .i64 0, .int .i64 0, .int .i64 0, .int .i64 0, .int .i64 0, .int .i64 0, .int .i64 0, .int .i64 0, .int .i64 0, .int .i64 0, .int .i64 0, .int .i64 0, .int .i64 0, .int .i64 0, .int .i64 0, .int .i64 0, .int .i64 0, .int .i64 0, .int .i64 0, .int .i64 0, .int .i64 0, .int .i64 0, .int .i64 0, .int .i64 0, .int .i64 0, .int .i64 0, .int .i64 0, .int .i64 0, .int .i64 0, .int .i64 0, .int .i64 0, .int .i64 0, .int .i64 0, .int .i64 0, .int .i64 0, .int .i64 0, .int .i64 0, .int .i64 0, .bool false, .int .i64 0, .int .i64 0, .int .i64 0, .slice none 0 0, .slice none 0 0, .slice none 0 0]⟩ := rfl
@[simp] theorem Tryz.τ63 : Tryz.τ 63 = some ⟨.func, 1, 8, [.nilFunc]⟩ := rfl
@[simp] theorem Tryz.τ64 : Tryz.τ 64 = some ⟨.func, 1, 8, [.nilFunc]⟩ := rfl
@[simp] theorem Tryz.τ65 : Tryz.τ 65 = some ⟨.slice 61, 1, 24, [.slice none 0 0]⟩ := rfl
@[simp] theorem Tryz.τ66 : Tryz.τ 66 = some ⟨.func, 1, 8, [.nilFunc]⟩ := rfl
@[simp] theorem Tryz.τ67 : Tryz.τ 67 = some ⟨.func, 1, 8, [.nilFunc]⟩ := rfl
@[simp] theorem Tryz.τ68 : Tryz.τ 68 = some ⟨.func, 1, 8, [.nilFunc]⟩ := rfl
@[simp] theorem Tryz.τ69 : Tryz.τ 69 = some ⟨.func, 1, 8, [.nilFunc]⟩ := rfl
@[simp] theorem Tryz.τ70 : Tryz.τ 70 = some ⟨.func, 1, 8, [.nilFunc]⟩ := rfl
@[simp] theorem Tryz.τ71 : Tryz.τ 71 = some ⟨.func, 1, 8, [.nilFunc]⟩ := rfl
@[simp] theorem Tryz.τ72 : Tryz.τ 72 = some ⟨.int .i64, 1, 8, [.int .i64 0]⟩ := rfl
@[simp] theorem Tryz.τ73 : Tryz.τ 73 = some ⟨.func, 1, 8, [.nilFunc]⟩ := rfl
@[simp] theorem Tryz.τ74 : Tryz.τ 74 = some ⟨.func, 1, 8, [.nilFunc]⟩ := rfl
@[simp] theorem Tryz.τ75 : Tryz.τ 75 = some ⟨.func, 1, 8, [.nilFunc]⟩ := rfl
@[simp] theorem Tryz.τ76 : Tryz.τ 76 = some ⟨.func, 1, 8, [.nilFunc]⟩ := rfl
@[simp] theorem Tryz.τ77 : Tryz.τ 77 = some ⟨.func, 1, 8, [.nilFunc]⟩ := rfl
@[simp] theorem Tryz.τ78 : Tryz.τ 78 = some ⟨.func, 1, 8, [.nilFunc]⟩ := rfl
@[simp] theorem Tryz.τ79 : Tryz.τ 79 = some ⟨.func, 1, 8, [.nilFunc]⟩ := rfl
@[simp] theorem Tryz.τ80 : Tryz.τ 80 = some ⟨.map 26 4, 1, 8, [.map none]⟩ := rfl
@[simp] theorem Tryz.τ81 : Tryz.τ 81 = some ⟨.map 3 3, 1, 8, [.map none]⟩ := rfl
@[simp] theorem Tryz.τ82 : Tryz.τ 82 = some ⟨.func, 1, 8, [.nilFunc]⟩ := rfl
@[simp] theorem Tryz.τ83 : Tryz.τ 83 = some ⟨.func, 1, 8, [.nilFunc]⟩ := rfl
@[simp] theorem Tryz.τ84 : Tryz.τ 84 = some ⟨.slice 3, 1, 24, [.slice none 0 0]⟩ := rfl
@[simp] theorem Tryz.τ85 : Tryz.τ 85 = some ⟨.func, 1, 8, [.nilFunc]⟩ := rfl
@[simp] theorem Tryz.τ86 : Tryz.τ 86 = some ⟨.func, 1, 8, [.nilFunc]⟩ := rfl
@[simp] theorem Tryz.τ87 : Tryz.τ 87 = some ⟨.func, 1, 8, [.nilFunc]⟩ := rfl
@[simp] theorem Tryz.τ88 : Tryz.τ 88 = some ⟨.func, 1, 8, [.nilFunc]⟩ := rfl
@[simp] theorem Tryz.τ89 : Tryz.τ 89 = some ⟨.map 53 4, 1, 8, [.map none]⟩ := rfl
@[simp] theorem Tryz.τ90 : Tryz.τ 90 = some ⟨.func, 1, 8, [.nilFunc]⟩ := rfl
@[simp] theorem Tryz.τ91 : Tryz.τ 91 = some ⟨.func, 1, 8, [.nilFunc]⟩ := rfl
@[simp] theorem Tryz.τ92 : Tryz.τ 92 = some ⟨.slice 147, 1, 24, [.slice none 0 0]⟩ := rfl
@[simp] theorem Tryz.τ93 : Tryz.τ 93 = some ⟨.slice 24, 1, 24, [.slice none 0 0]⟩ := rfl
@[simp] theorem Tryz.τ94 : Tryz.τ 94 = some ⟨.func, 1, 8, [.nilFunc]⟩ := rfl
@[simp] theorem Tryz.τ95 : Tryz.τ 95 = some ⟨.func, 1, 8, [.nilFunc]⟩ := rfl
@[simp] theorem Tryz.τ96 : Tryz.τ 96 = some ⟨.map 122 22, 1, 8, [.map none]⟩ := rfl
@[simp] theorem Tryz.τ97 : Tryz.τ 97 = some ⟨.map 122 22, 1, 8, [.map none]⟩ := rfl
@[simp] theorem Tryz.τ98 : Tryz.τ 98 = some ⟨.func, 1, 8, [.nilFunc]⟩ := rfl
@[simp] theorem Tryz.τ99 : Tryz.τ 99 = some ⟨.func, 1, 8, [.nilFunc]⟩ := rfl
@[simp] theorem Tryz.τ100 : Tryz.τ 100 = some ⟨.func, 1, 8, [.nilFunc]⟩ := rfl
@[simp] theorem Tryz.τ101 : Tryz.τ 101 = some ⟨.func, 1, 8, [.nilFunc]⟩ := rfl
@[simp] theorem Tryz.τ102 : Tryz.τ 102 = some ⟨.func, 1, 8, [.nilFunc]⟩ := rfl
@[simp] theorem Tryz.τ103 : Tryz.τ 103 = some ⟨.func, 1, 8, [.nilFunc]⟩ := rfl
@[simp] theorem Tryz.τ104 : Tryz.τ 104 = some ⟨.slice 22, 1, 24, [.slice none 0 0]⟩ := rfl
@[simp] theorem Tryz.τ105 : Tryz.τ 105 = some ⟨.func, 1, 8, [.nilFunc]⟩ := rfl
@[simp] theorem Tryz.τ106 : Tryz.τ 106 = some ⟨.func, 1, 8, [.nilFunc]⟩ := rfl
@[simp] theorem Tryz.τ107 : Tryz.τ 107 = some ⟨.func, 1, 8, [.nilFunc]⟩ := rfl
@[simp] theorem Tryz.τ108 : Tryz.τ 108 = some ⟨.func, 1, 8, [.nilFunc]⟩ := rfl
@[simp] theorem Tryz.τ109 : Tryz.τ 109 = some ⟨.func, 1, 8, [.nilFunc]⟩ := rfl
@[simp] theorem Tryz.τ110 : Tryz.τ 110 = some ⟨.func, 1, 8, [.nilFunc]⟩ := rfl
@[simp] theorem Tryz.τ111 : Tryz.τ 111 = some ⟨.func, 1, 8, [.nilFunc]⟩ := rfl
@[simp] theorem Tryz.τ112 : Tryz.τ 112 = some ⟨.func, 1, 8, [.nilFunc]⟩ := rfl
@[simp] theorem Tryz.τ113 : Tryz.τ 113 = some ⟨.func, 1, 8, [.nilFunc]⟩ := rfl
@[simp] theorem Tryz.τ114 : Tryz.τ 114 = some ⟨.func, 1, 8, [.nilFunc]⟩ := rfl
@[simp] theorem Tryz.τ115 : Tryz.τ 115 = some ⟨.func, 1, 8, [.nilFunc]⟩ := rfl
@[simp] theorem Tryz.τ116 : Tryz.τ 116 = some ⟨.func, 1, 8, [.nilFunc]⟩ := rfl
@[simp] theorem Tryz.τ117 : Tryz.τ 117 = some ⟨.func, 1, 8, [.nilFunc]⟩ := rfl
@[simp] theorem Tryz.τ118 : Tryz.τ 118 = some ⟨.func, 1, 8, [.nilFunc]⟩ := rfl
@[simp] theorem Tryz.τ119 : Tryz.τ 119 = some ⟨.func, 1, 8, [.nilFunc]⟩ := rfl
@[simp] theorem Tryz.τ120 : Tryz.τ 120 = some ⟨.func, 1, 8, [.nilFunc]⟩ := rfl
@[simp] theorem Tryz.τ121 : Tryz.τ 121 = some ⟨.struct [(0, 3), (1, 3)], 2, 16, [.int .i64 0, .int .i64 0]⟩ := rfl
@[simp] theorem Tryz.τ122 : Tryz.τ 122 = some ⟨.struct [(0, 3), (1, 3)], 2, 16, [.int .i64 0, .int .i64 0]⟩ := rfl
@[simp] theorem Tryz.τ123 : Tryz.τ 123 = some ⟨.func, 1, 8, [.nilFunc]⟩ := rfl
@[simp] theorem Tryz.τ125 : Tryz.τ 125 = some ⟨.func, 1, 8, [.nilFunc]⟩ := rfl
@[simp] theorem Tryz.τ126 : Tryz.τ 126 = some ⟨.func, 1, 8, [.nilFunc]⟩ := rfl
@[simp] theorem Tryz.τ127 : Tryz.τ 127 = some ⟨.func, 1, 8, [.nilFunc]⟩ := rfl
@[simp] theorem Tryz.τ129 : Tryz.τ 129 = some ⟨.func, 1, 8, [.nilFunc]⟩ := rfl
@[simp] theorem Tryz.τ130 : Tryz.τ 130 = some ⟨.func, 1, 8, [.nilFunc]⟩ := rfl
@[simp] theorem Tryz.τ131 : Tryz.τ 131 = some ⟨.slice 122, 1, 24, [.slice none 0 0]⟩ := rfl
@[simp] theorem Tryz.τ132 : Tryz.τ 132 = some ⟨.func, 1, 8, [.nilFunc]⟩ := rfl
@[simp] theorem Tryz.τ133 : Tryz.τ 133 = some ⟨.func, 1, 8, [.nilFunc]⟩ := rfl
@[simp] theorem Tryz.τ134 : Tryz.τ 134 = some ⟨.func, 1, 8, [.nilFunc]⟩ := rfl
@[simp] theorem Tryz.τ135 : Tryz.τ 135 = some ⟨.func, 1, 8, [.nilFunc]⟩ := rfl
@[simp] theorem Tryz.τ136 : Tryz.τ 136 = some ⟨.func, 1, 8, [.nilFunc]⟩ := rfl
@[simp] theorem Tryz.τ137 : Tryz.τ 137 = some ⟨.func, 1, 8, [.nilFunc]⟩ := rfl
@[simp] theorem Tryz.τ138 : Tryz.τ 138 = some ⟨.func, 1, 8, [.nilFunc]⟩ := rfl
@[simp] theorem Tryz.τ139 : Tryz.τ 139 = some ⟨.int .u64, 1, 8, [.int .u64 0]⟩ := rfl
@[simp] theorem Tryz.τ140 : Tryz.τ 140 = some ⟨.func, 1, 8, [.nilFunc]⟩ := rfl
@[simp] theorem Tryz.τ141 : Tryz.τ 141 = some ⟨.func, 1, 8, [.nilFunc]⟩ := rfl
@[simp] theorem Tryz.τ142 : Tryz.τ 142 = some ⟨.func, 1, 8, [.nilFunc]⟩ := rfl
@[simp] theorem Tryz.τ143 : Tryz.τ 143 = some ⟨.func, 1, 8, [.nilFunc]⟩ := rfl
@[simp] theorem Tryz.τ144 : Tryz.τ 144 = some ⟨.array 32 5, 32, 32, [.int .u8 0, .int .u8 0, .int .u8 0, .int .u8 0, .int .u8 0, .int .u8 0, .int .u8 0, .int .u8 0, .int .u8 0, .int .u8 0, .int .u8 0, .int .u8 0, .int .u8 0, .int .u8 0, .int .u8 0, .int .u8 0, .int .u8 0, .int .u8 0, .int .u8 0, .int .u8 0, .int .u8 0, .int .u8 0, .int .u8 0, .int .u8 0, .int .u8 0, .int .u8 0, .int .u8 0, .int .u8 0, .int .u8 0, .int .u8 0, .int .u8 0, .int .u8 0]⟩ := rfl
@[simp] theorem Tryz.τ145 : Tryz.τ 145 = some ⟨.array 32 5, 32, 32, [.int .u8 0, .int .u8 0, .int .u8 0, .int .u8 0, .int .u8 0, .int .u8 0, .int .u8 0, .int .u8 0, .int .u8 0, .int .u8 0, .int .u8 0, .int .u8 0, .int .u8 0, .int .u8 0, .int .u8 0, .int .u8 0, .int .u8 0, .int .u8 0, .int .u8 0, .int .u8 0, .int .u8 0, .int .u8 0, .int .u8 0, .int .u8 0, .int .u8 0, .int .u8 0, .int .u8 0, .int .u8 0, .int .u8 0, .int .u8 0, .int .u8 0, .int .u8 0]⟩ := rfl
@[simp] theorem Tryz.τ146 : Tryz.τ 146 = some ⟨.struct [(0, 145), (32, 3)], 33, 40, [.int .u8 0, .int .u8 0, .int .u8 0, .int .u8 0, .int .u8 0, .int .u8 0, .int .u8 0, .int .u8 0, .int .u8 0, .int .u8 0, .int .u8 0, .int .u8 0, .int .u8 0, .int .u8 0, .int .u8 0, .int .u8 0, .int .u8 0, .int .u8 0, .int .u8 0, .int .u8 0, .int .u8 0, .int .u8 0, .int .u8 0, .int .u8 0, .int .u8 0, .int .u8 0, .int .u8 0, .int .u8 0, .int .u8 0, .int .u8 0, .int .u8 0, .int .u8 0, .int .i64 0]⟩ := rfl
@[simp] theorem Tryz.τ147 : Tryz.τ 147 = some ⟨.struct [(0, 145), (32, 3)], 33, 40, [.int .u8 0, .int .u8 0, .int .u8 0, .int .u8 0, .int .u8 0, .int .u8 0, .int .u8 0, .int .u8 0, .int .u8 0, .int .u8 0, .int .u8 0, .int .u8 0, .int .u8 0, .int .u8 0, .int .u8 0, .int .u8 0, .int .u8 0, .int .u8 0, .int .u8 0, .int .u8 0, .int .u8 0, .int .u8 0, .int .u8 0, .int .u8 0, .int .u8 0, .int .u8 0, .int .u8 0, .int .u8 0, .int .u8 0, .int .u8 0, .int .u8 0, .int .u8 0, .int .i64 0]⟩ := rfl
@[simp] theorem Tryz.τ148 : Tryz.τ 148 = some ⟨.func, 1, 8, [.nilFunc]⟩ := rfl
@[simp] theorem Tryz.τ149 : Tryz.τ 149 = some ⟨.func, 1, 8, [.nilFunc]⟩ := rfl
@[simp] theorem Tryz.τ150 : Tryz.τ 150 = some ⟨.slice 5, 1, 24, [.slice none 0 0]⟩ := rfl
@[simp] theorem Tryz.τ152 : Tryz.τ 152 = some ⟨.func, 1, 8, [.nilFunc]⟩ := rfl
@[simp] theorem Tryz.τ153 : Tryz.τ 153 = some ⟨.func, 1, 8, [.nilFunc]⟩ := rfl
@[simp] theorem Tryz.τ154 : Tryz.τ 154 = some ⟨.func, 1, 8, [.nilFunc]⟩ := rfl
@[simp] theorem Tryz.τ155 : Tryz.τ 155 = some ⟨.func, 1, 8, [.nilFunc]⟩ := rfl
@[simp] theorem Tryz.τ156 : Tryz.τ 156 = some ⟨.slice 168, 1, 24, [.slice none 0 0]⟩ := rfl
@[simp] theorem Tryz.τ157 : Tryz.τ 157 = some ⟨.struct [(0, 156), (1, 27)], 2, 32, [.slice none 0 0, .nilFunc]⟩ := rfl
@[simp] theorem Tryz.τ158 : Tryz.τ 158 = some ⟨.struct [(0, 156), (1, 27)], 2, 32, [.slice none 0 0, .nilFunc]⟩ := rfl
@[simp] theorem Tryz.τ160 : Tryz.τ 160 = some ⟨.func, 1, 8, [.nilFunc]⟩ := rfl
@[simp] theorem Tryz.τ161 : Tryz.τ 161 = some ⟨.ptr 53, 1, 8, [.pointer none]⟩ := rfl
@[simp] theorem Tryz.τ162 : Tryz.τ 162 = some ⟨.ptr 3, 1, 8, [.pointer none]⟩ := rfl
@[simp] theorem Tryz.τ163 : Tryz.τ 163 = some ⟨.func, 1, 8, [.nilFunc]⟩ := rfl
@[simp] theorem Tryz.τ164 : Tryz.τ 164 = some ⟨.func, 1, 8, [.nilFunc]⟩ := rfl
@[simp] theorem Tryz.τ165 : Tryz.τ 165 = some ⟨.struct [(0, 3), (1, 3)], 2, 16, [.int .i64 0, .int .i64 0]⟩ := rfl
@[simp] theorem Tryz.τ166 : Tryz.τ 166 = some ⟨.struct [(0, 3), (1, 3)], 2, 16, [.int .i64 0, .int .i64 0]⟩ := rfl
@[simp] theorem Tryz.τ167 : Tryz.τ 167 = some ⟨.struct [(0, 162), (1, 166)], 3, 24, [.pointer none, .int .i64 0, .int .i64 0]⟩ := rfl
@[simp] theorem Tryz.τ168 : Tryz.τ 168 = some ⟨.struct [(0, 162), (1, 166)], 3, 24, [.pointer none, .int .i64 0, .int .i64 0]⟩ := rfl
@[simp] theorem Tryz.τ169 : Tryz.τ 169 = some ⟨.func, 1, 8, [.nilFunc]⟩ := rfl
@[simp] theorem Tryz.τ170 : Tryz.τ 170 = some ⟨.func, 1, 8, [.nilFunc]⟩ := rfl
@[simp] theorem Tryz.τ171 : Tryz.τ 171 = some ⟨.func, 1, 8, [.nilFunc]⟩ := rfl
@[simp] theorem Tryz.τ172 : Tryz.τ 172 = some ⟨.func, 1, 8, [.nilFunc]⟩ := rfl
@[simp] theorem Tryz.τ173 : Tryz.τ 173 = some ⟨.int .i64, 1, 8, [.int .i64 0]⟩ := rfl
@[simp] theorem Tryz.τ175 : Tryz.τ 175 = some ⟨.func, 1, 8, [.nilFunc]⟩ := rfl
@[simp] theorem Tryz.τ176 : Tryz.τ 176 = some ⟨.func, 1, 8, [.nilFunc]⟩ := rfl
@[simp] theorem Tryz.τ177 : Tryz.τ 177 = some ⟨.func, 1, 8, [.nilFunc]⟩ := rfl
@[simp] theorem Tryz.τ178 : Tryz.τ 178 = some ⟨.func, 1, 8, [.nilFunc]⟩ := rfl
@[simp] theorem Tryz.τ179 : Tryz.τ 179 = some ⟨.func, 1, 8, [.nilFunc]⟩ := rfl
@[simp] theorem Tryz.τ180 : Tryz.τ 180 = some ⟨.func, 1, 8, [.nilFunc]⟩ := rfl
@[simp] theorem Tryz.τ181 : Tryz.τ 181 = some ⟨.int .u32, 1, 4, [.int .u32 0]⟩ := rfl
@[simp] theorem Tryz.τ182 : Tryz.τ 182 = some ⟨.func, 1, 8, [.nilFunc]⟩ := rfl
@[simp] theorem Tryz.τ183 : Tryz.τ 183 = some ⟨.int .u64, 1, 8, [.int .u64 0]⟩ := rfl
@[simp] theorem Tryz.τ184 : Tryz.τ 184 = some ⟨.func, 1, 8, [.nilFunc]⟩ := rfl
@[simp] theorem Tryz.τ185 : Tryz.τ 185 = some ⟨.func, 1, 8, [.nilFunc]⟩ := rfl
@[simp] theorem Tryz.τ186 : Tryz.τ 186 = some ⟨.func, 1, 8, [.nilFunc]⟩ := rfl
@[simp] theorem Tryz.τ187 : Tryz.τ 187 = some ⟨.func, 1, 8, [.nilFunc]⟩ := rfl
@[simp] theorem Tryz.τ188 : Tryz.τ 188 = some ⟨.func, 1, 8, [.nilFunc]⟩ := rfl
@[simp] theorem Tryz.τ189 : Tryz.τ 189 = some ⟨.slice 191, 1, 24, [.slice none 0 0]⟩ := rfl
@[simp] theorem Tryz.τ190 : Tryz.τ 190 = some ⟨.struct [(0, 3), (1, 3), (2, 9), (3, 189)], 4, 56, [.int .i64 0, .int .i64 0, .string { data := #[] }, .slice none 0 0]⟩ := rfl
@[simp] theorem Tryz.τ191 : Tryz.τ 191 = some ⟨.struct [(0, 3), (1, 3), (2, 9), (3, 189)], 4, 56, [.int .i64 0, .int .i64 0, .string { data := #[] }, .slice none 0 0]⟩ := rfl
@[simp] theorem Tryz.τ192 : Tryz.τ 192 = some ⟨.func, 1, 8, [.nilFunc]⟩ := rfl
@[simp] theorem Tryz.τ193 : Tryz.τ 193 = some ⟨.ptr 31, 1, 8, [.pointer none]⟩ := rfl
@[simp] theorem Tryz.τ194 : Tryz.τ 194 = some ⟨.ptr 33, 1, 8, [.pointer none]⟩ := rfl
@[simp] theorem Tryz.τ195 : Tryz.τ 195 = some ⟨.ptr 35, 1, 8, [.pointer none]⟩ := rfl
@[simp] theorem Tryz.τ196 : Tryz.τ 196 = some ⟨.ptr 37, 1, 8, [.pointer none]⟩ := rfl
@[simp] theorem Tryz.τ197 : Tryz.τ 197 = some ⟨.ptr 39, 1, 8, [.pointer none]⟩ := rfl
@[simp] theorem Tryz.τ198 : Tryz.τ 198 = some ⟨.ptr 41, 1, 8, [.pointer none]⟩ := rfl
@[simp] theorem Tryz.τ199 : Tryz.τ 199 = some ⟨.ptr 43, 1, 8, [.pointer none]⟩ := rfl
@[simp] theorem Tryz.τ200 : Tryz.τ 200 = some ⟨.ptr 45, 1, 8, [.pointer none]⟩ := rfl
@[simp] theorem Tryz.τ201 : Tryz.τ 201 = some ⟨.ptr 47, 1, 8, [.pointer none]⟩ := rfl
@[simp] theorem Tryz.τ202 : Tryz.τ 202 = some ⟨.ptr 49, 1, 8, [.pointer none]⟩ := rfl
@[simp] theorem Tryz.τ203 : Tryz.τ 203 = some ⟨.func, 1, 8, [.nilFunc]⟩ := rfl
@[simp] theorem Tryz.τ204 : Tryz.τ 204 = some ⟨.func, 1, 8, [.nilFunc]⟩ := rfl
@[simp] theorem Tryz.τ205 : Tryz.τ 205 = some ⟨.func, 1, 8, [.nilFunc]⟩ := rfl
@[simp] theorem Tryz.τ206 : Tryz.τ 206 = some ⟨.func, 1, 8, [.nilFunc]⟩ := rfl
@[simp] theorem Tryz.τ207 : Tryz.τ 207 = some ⟨.func, 1, 8, [.nilFunc]⟩ := rfl
@[simp] theorem Tryz.τ208 : Tryz.τ 208 = some ⟨.func, 1, 8, [.nilFunc]⟩ := rfl
@[simp] theorem Tryz.τ209 : Tryz.τ 209 = some ⟨.func, 1, 8, [.nilFunc]⟩ := rfl
@[simp] theorem Tryz.τ210 : Tryz.τ 210 = some ⟨.func, 1, 8, [.nilFunc]⟩ := rfl
@[simp] theorem Tryz.τ211 : Tryz.τ 211 = some ⟨.int .u64, 1, 8, [.int .u64 0]⟩ := rfl
@[simp] theorem Tryz.τ212 : Tryz.τ 212 = some ⟨.func, 1, 8, [.nilFunc]⟩ := rfl
@[simp] theorem Tryz.τ213 : Tryz.τ 213 = some ⟨.func, 1, 8, [.nilFunc]⟩ := rfl
@[simp] theorem Tryz.τ214 : Tryz.τ 214 = some ⟨.func, 1, 8, [.nilFunc]⟩ := rfl
@[simp] theorem Tryz.τ215 : Tryz.τ 215 = some ⟨.func, 1, 8, [.nilFunc]⟩ := rfl
@[simp] theorem Tryz.τ216 : Tryz.τ 216 = some ⟨.func, 1, 8, [.nilFunc]⟩ := rfl
@[simp] theorem Tryz.τ217 : Tryz.τ 217 = some ⟨.func, 1, 8, [.nilFunc]⟩ := rfl
@[simp] theorem Tryz.τ218 : Tryz.τ 218 = some ⟨.func, 1, 8, [.nilFunc]⟩ := rfl
@[simp] theorem Tryz.τ219 : Tryz.τ 219 = some ⟨.func, 1, 8, [.nilFunc]⟩ := rfl
@[simp] theorem Tryz.τ220 : Tryz.τ 220 = some ⟨.func, 1, 8, [.nilFunc]⟩ := rfl
@[simp] theorem Tryz.τ221 : Tryz.τ 221 = some ⟨.array 64 4, 64, 64, [.bool false, .bool false, .bool false, .bool false, .bool false, .bool false, .bool false, .bool false, .bool false, .bool false, .bool false, .bool false, .bool false, .bool false, .bool false, .bool false, .bool false, .bool false, .bool false, .bool false, .bool false, .bool false, .bool false, .bool false, .bool false, .bool false, .bool false, .bool false, .bool false, .bool false, .bool false, .bool false, .bool false, .bool false, .bool false, .bool false, .bool false, .bool false, .bool false, .bool false, .bool false, .bool false, .bool false, .bool false, .bool false, .bool false, .bool false, .bool false, .bool false, .bool false, .bool false, .bool false, .bool false, .bool false, .bool false, .bool false, .bool false, .bool false, .bool false, .bool false, .bool false, .bool false, .bool false, .bool false]⟩ := rfl
@[simp] theorem Tryz.τ222 : Tryz.τ 222 = some ⟨.array 64 4, 64, 64, [.bool false, .bool false, .bool false, .bool false, .bool false, .bool false, .bool false, .bool false, .bool false, .bool false, .bool false, .bool false, .bool false, .bool false, .bool false, .bool false, .bool false, .bool false, .bool false, .bool false, .bool false, .bool false, .bool false, .bool false, .bool false, .bool false, .bool false, .bool false, .bool false, .bool false, .bool false, .bool false, .bool false, .bool false, .bool false, .bool false, .bool false, .bool false, .bool false, .bool false, .bool false, .bool false, .bool false, .bool false, .bool false, .bool false, .bool false, .bool false, .bool false, .bool false, .bool false, .bool false, .bool false, .bool false, .bool false, .bool false, .bool false, .bool false, .bool false, .bool false, .bool false, .bool false, .bool false, .bool false]⟩ := rfl
@[simp] theorem Tryz.τ223 : Tryz.τ 223 = some ⟨.func, 1, 8, [.nilFunc]⟩ := rfl
@[simp] theorem Tryz.τ224 : Tryz.τ 224 = some ⟨.func, 1, 8, [.nilFunc]⟩ := rfl
@[simp] theorem Tryz.τ225 : Tryz.τ 225 = some ⟨.func, 1, 8, [.nilFunc]⟩ := rfl
@[simp] theorem Tryz.τ227 : Tryz.τ 227 = some ⟨.func, 1, 8, [.nilFunc]⟩ := rfl
@[simp] theorem Tryz.τ228 : Tryz.τ 228 = some ⟨.func, 1, 8, [.nilFunc]⟩ := rfl
@[simp] theorem Tryz.τ229 : Tryz.τ 229 = some ⟨.func, 1, 8, [.nilFunc]⟩ := rfl
@[simp] theorem Tryz.τ230 : Tryz.τ 230 = some ⟨.func, 1, 8, [.nilFunc]⟩ := rfl
@[simp] theorem Tryz.τ231 : Tryz.τ 231 = some ⟨.func, 1, 8, [.nilFunc]⟩ := rfl
@[simp] theorem Tryz.τ232 : Tryz.τ 232 = some ⟨.struct [(0, 231)], 1, 8, [.nilFunc]⟩ := rfl
@[simp] theorem Tryz.τ233 : Tryz.τ 233 = some ⟨.struct [(0, 231)], 1, 8, [.nilFunc]⟩ := rfl
@[simp] theorem Tryz.τ234 : Tryz.τ 234 = some ⟨.ptr 254, 1, 8, [.pointer none]⟩ := rfl
@[simp] theorem Tryz.τ235 : Tryz.τ 235 = some ⟨.func, 1, 8, [.nilFunc]⟩ := rfl
@[simp] theorem Tryz.τ236 : Tryz.τ 236 = some ⟨.func, 1, 8, [.nilFunc]⟩ := rfl
@[simp] theorem Tryz.τ237 : Tryz.τ 237 = some ⟨.func, 1, 8, [.nilFunc]⟩ := rfl
@[simp] theorem Tryz.τ238 : Tryz.τ 238 = some ⟨.func, 1, 8, [.nilFunc]⟩ := rfl
@[simp] theorem Tryz.τ239 : Tryz.τ 239 = some ⟨.func, 1, 8, [.nilFunc]⟩ := rfl
@[simp] theorem Tryz.τ240 : Tryz.τ 240 = some ⟨.func, 1, 8, [.nilFunc]⟩ := rfl
@[simp] theorem Tryz.τ241 : Tryz.τ 241 = some ⟨.ptr 211, 1, 8, [.pointer none]⟩ := rfl
@[simp] theorem Tryz.τ243 : Tryz.τ 243 = some ⟨.func, 1, 8, [.nilFunc]⟩ := rfl
@[simp] theorem Tryz.τ244 : Tryz.τ 244 = some ⟨.func, 1, 8, [.nilFunc]⟩ := rfl
@[simp] theorem Tryz.τ245 : Tryz.τ 245 = some ⟨.func, 1, 8, [.nilFunc]⟩ := rfl
@[simp] theorem Tryz.τ246 : Tryz.τ 246 = some ⟨.func, 1, 8, [.nilFunc]⟩ := rfl
@[simp] theorem Tryz.τ247 : Tryz.τ 247 = some ⟨.func, 1, 8, [.nilFunc]⟩ := rfl
@[simp] theorem Tryz.τ248 : Tryz.τ 248 = some ⟨.slice 4, 1, 24, [.slice none 0 0]⟩ := rfl
@[simp] theorem Tryz.τ249 : Tryz.τ 249 = some ⟨.func, 1, 8, [.nilFunc]⟩ := rfl
@[simp] theorem Tryz.τ250 : Tryz.τ 250 = some ⟨.func, 1, 8, [.nilFunc]⟩ := rfl
@[simp] theorem Tryz.τ251 : Tryz.τ 251 = some ⟨.func, 1, 8, [.nilFunc]⟩ := rfl
@[simp] theorem Tryz.τ252 : Tryz.τ 252 = some ⟨.func, 1, 8, [.nilFunc]⟩ := rfl
@[simp] theorem Tryz.τ253 : Tryz.τ 253 = some ⟨.array 4 233, 4, 32, [.nilFunc, .nilFunc, .nilFunc, .nilFunc]⟩ := rfl
@[simp] theorem Tryz.τ254 : Tryz.τ 254 = some ⟨.array 4 233, 4, 32, [.nilFunc, .nilFunc, .nilFunc, .nilFunc]⟩ := rfl
@[simp] theorem Tryz.τ255 : Tryz.τ 255 = some ⟨.func, 1, 8, [.nilFunc]⟩ := rfl
@[simp] theorem Tryz.τ256 : Tryz.τ 256 = some ⟨.func, 1, 8, [.nilFunc]⟩ := rfl
@[simp] theorem Tryz.τ257 : Tryz.τ 257 = some ⟨.func, 1, 8, [.nilFunc]⟩ := rfl
@[simp] theorem Tryz.τ258 : Tryz.τ 258 = some ⟨.func, 1, 8, [.nilFunc]⟩ := rfl
@[simp] theorem Tryz.τ259 : Tryz.τ 259 = some ⟨.func, 1, 8, [.nilFunc]⟩ := rfl
@[simp] theorem Tryz.τ260 : Tryz.τ 260 = some ⟨.func, 1, 8, [.nilFunc]⟩ := rfl
@[simp] theorem Tryz.τ261 : Tryz.τ 261 = some ⟨.slice 150, 1, 24, [.slice none 0 0]⟩ := rfl
@[simp] theorem Tryz.τ262 : Tryz.τ 262 = some ⟨.func, 1, 8, [.nilFunc]⟩ := rfl
@[simp] theorem Tryz.τ263 : Tryz.τ 263 = some ⟨.array 8 181, 8, 32, [.int .u32 0, .int .u32 0, .int .u32 0, .int .u32 0, .int .u32 0, .int .u32 0, .int .u32 0, .int .u32 0]⟩ := rfl
@[simp] theorem Tryz.τ264 : Tryz.τ 264 = some ⟨.func, 1, 8, [.nilFunc]⟩ := rfl
@[simp] theorem Tryz.τ265 : Tryz.τ 265 = some ⟨.ptr 263, 1, 8, [.pointer none]⟩ := rfl
@[simp] theorem Tryz.τ266 : Tryz.τ 266 = some ⟨.array 4 4, 4, 4, [.bool false, .bool false, .bool false, .bool false]⟩ := rfl
@[simp] theorem Tryz.τ267 : Tryz.τ 267 = some ⟨.func, 1, 8, [.nilFunc]⟩ := rfl
@[simp] theorem Tryz.τ268 : Tryz.τ 268 = some ⟨.func, 1, 8, [.nilFunc]⟩ := rfl
@[simp] theorem Tryz.τ269 : Tryz.τ 269 = some ⟨.func, 1, 8, [.nilFunc]⟩ := rfl
@[simp] theorem Tryz.τ270 : Tryz.τ 270 = some ⟨.array 16 181, 16, 64, [.int .u32 0, .int .u32 0, .int .u32 0, .int .u32 0, .int .u32 0, .int .u32 0, .int .u32 0, .int .u32 0, .int .u32 0, .int .u32 0, .int .u32 0, .int .u32 0, .int .u32 0, .int .u32 0, .int .u32 0, .int .u32 0]⟩ := rfl
@[simp] theorem Tryz.τ271 : Tryz.τ 271 = some ⟨.array 16 181, 16, 64, [.int .u32 0, .int .u32 0, .int .u32 0, .int .u32 0, .int .u32 0, .int .u32 0, .int .u32 0, .int .u32 0, .int .u32 0, .int .u32 0, .int .u32 0, .int .u32 0, .int .u32 0, .int .u32 0, .int .u32 0, .int .u32 0]⟩ := rfl
@[simp] theorem Tryz.τ272 : Tryz.τ 272 = some ⟨.slice 181, 1, 24, [.slice none 0 0]⟩ := rfl
@[simp] theorem Tryz.τ273 : Tryz.τ 273 = some ⟨.func, 1, 8, [.nilFunc]⟩ := rfl
@[simp] theorem Tryz.τ274 : Tryz.τ 274 = some ⟨.array 16 5, 16, 16, [.int .u8 0, .int .u8 0, .int .u8 0, .int .u8 0, .int .u8 0, .int .u8 0, .int .u8 0, .int .u8 0, .int .u8 0, .int .u8 0, .int .u8 0, .int .u8 0, .int .u8 0, .int .u8 0, .int .u8 0, .int .u8 0]⟩ := rfl
@[simp] theorem Tryz.τ275 : Tryz.τ 275 = some ⟨.array 10 274, 160, 160, [.int .u8 0, .int .u8 0, .int .u8 0, .int .u8 0, .int .u8 0, .int .u8 0, .int .u8 0, .int .u8 0, .int .u8 0, .int .u8 0, .int .u8 0, .int .u8 0, .int .u8 0, .int .u8 0, .int .u8 0, .int .u8 0, .int .u8 0, .int .u8 0, .int .u8 0, .int .u8 0, .int .u8 0, .int .u8 0, .int .u8 0, .int .u8 0, .int .u8 0, .int .u8 0, .int .u8 0, .int .u8 0, .int .u8 0, .int .u8 0, .int .u8 0, .int .u8 0, .int .u8 0, .int .u8 0, .int .u8 0, .int .u8 0, .int .u8 0, .int .u8 0, .int .u8 0, .int .u8 0, .int .u8 0, .int .u8 0, .int .u8 0, .int .u8 0, .int .u8 0, .int .u8 0, .int .u8 0, .int .u8 0, .int .u8 0, .int .u8 0, .int .u8 0, .int .u8 0, .int .u8 0, .int .u8 0, .int .u8 0, .int .u8 0, .int .u8 0, .int .u8 0, .int .u8 0, .int .u8 0, .int .u8 0, .int .u8 0, .int .u8 0, .int .u8 0, .int .u8 0, .int .u8 0, .int .u8 0, .int .u8 0, .int .u8 0, .int .u8 0, .int .u8 0, .int .u8 0, .int .u8 0, .int .u8 0, .int .u8 0, .int .u8 0, .int .u8 0, .int .u8 0, .int .u8 0, .int .u8 0, .int .u8 0, .int .u8 0, .int .u8 0, .int .u8 0, .int .u8 0, .int .u8 0, .int .u8 0, .int .u8 0, .int .u8 0, .int .u8 0, .int .u8 0, .int .u8 0, .int .u8 0, .int .u8 0, .int .u8 0, .int .u8 0, .int .u8 0, .int .u8 0, .int .u8 0, .int .u8 0, .int .u8 0, .int .u8 0, .int .u8 0, .int .u8 0, .int .u8 0, .int .u8 0, .int .u8 0, .int .u8 0, .int .u8 0, .int .u8 0, .int .u8 0, .int .u8 0, .int .u8 0, .int .u8 0, .int .u8 0, .int .u8 0, .int .u8 0, .int .u8 0, .int .u8 0, .int .u8 0, .int .u8 0, .int .u8 0, .int .u8 0, .int .u8 0, .int .u8 0, .int .u8 0, .int .u8 0, .int .u8 0, .int .u8 0, .int .u8 0, .int .u8 0, .int .u8 0, .int .u8 0, .int .u8 0, .int .u8 0, .int .u8 0, .int .u8 0, .int .u8 0, .int .u8 0, .int .u8 0, .int .u8 0, .int .u8 0, .int .u8 0, .int .u8 0, .int .u8 0, .int .u8 0, .int .u8 0, .int .u8 0, .int .u8 0, .int .u8 0, .int .u8 0, .int .u8 0, .int .u8 0, .int .u8 0, .int .u8 0, .int .u8 0, .int .u8 0, .int .u8 0, .int .u8 0, .int .u8 0]⟩ := rfl
@[simp] theorem Tryz.τ276 : Tryz.τ 276 = some ⟨.ptr 271, 1, 8, [.pointer none]⟩ := rfl
@[simp] theorem Tryz.τ277 : Tryz.τ 277 = some ⟨.func, 1, 8, [.nilFunc]⟩ := rfl
@[simp] theorem Tryz.τ278 : Tryz.τ 278 = some ⟨.func, 1, 8, [.nilFunc]⟩ := rfl
@[simp] theorem Tryz.τ279 : Tryz.τ 279 = some ⟨.struct [(0, 17), (1, 17), (2, 17), (3, 9)], 4, 40, [.pointer none, .pointer none, .pointer none, .string { data := #[] }]⟩ := rfl
@[simp] theorem Tryz.τ280 : Tryz.τ 280 = some ⟨.struct [(0, 17), (1, 17), (2, 17), (3, 9)], 4, 40, [.pointer none, .pointer none, .pointer none, .string { data := #[] }]⟩ := rfl
@[simp] theorem Tryz.τ281 : Tryz.τ 281 = some ⟨.array 0 16, 0, 0, []⟩ := rfl
@[simp] theorem Tryz.τ282 : Tryz.τ 282 = some ⟨.struct [(0, 281)], 0, 0, []⟩ := rfl
@[simp] theorem Tryz.τ283 : Tryz.τ 283 = some ⟨.struct [(0, 281)], 0, 0, []⟩ := rfl
@[simp] theorem Tryz.τ284 : Tryz.τ 284 = some ⟨.func, 1, 8, [.nilFunc]⟩ := rfl
@[simp] theorem Tryz.τ285 : Tryz.τ 285 = some ⟨.int .u8, 1, 1, [.int .u8 0]⟩ := rfl
@[simp] theorem Tryz.τ286 : Tryz.τ 286 = some ⟨.int .u8, 1, 1, [.int .u8 0]⟩ := rfl
@[simp] theorem Tryz.τ287 : Tryz.τ 287 = some ⟨.func, 1, 8, [.nilFunc]⟩ := rfl
@[simp] theorem Tryz.τ288 : Tryz.τ 288 = some ⟨.ptr 5, 1, 8, [.pointer none]⟩ := rfl
@[simp] theorem Tryz.τ289 : Tryz.τ 289 = some ⟨.int .i32, 1, 4, [.int .i32 0]⟩ := rfl
@[simp] theorem Tryz.τ290 : Tryz.τ 290 = some ⟨.int .i32, 1, 4, [.int .i32 0]⟩ := rfl
@[simp] theorem Tryz.τ291 : Tryz.τ 291 = some ⟨.struct [(0, 12), (1, 12), (2, 181), (3, 285), (4, 5), (5, 5), (6, 286), (7, 287), (8, 288), (9, 289), (10, 290)], 11, 48, [.int .u64 0, .int .u64 0, .int .u32 0, .int .u8 0, .int .u8 0, .int .u8 0, .int .u8 0, .nilFunc, .pointer none, .int .i32 0, .int .i32 0]⟩ := rfl
@[simp] theorem Tryz.τ292 : Tryz.τ 292 = some ⟨.struct [(0, 12), (1, 12), (2, 181), (3, 285), (4, 5), (5, 5), (6, 286), (7, 287), (8, 288), (9, 289), (10, 290)], 11, 48, [.int .u64 0, .int .u64 0, .int .u32 0, .int .u8 0, .int .u8 0, .int .u8 0, .int .u8 0, .nilFunc, .pointer none, .int .i32 0, .int .i32 0]⟩ := rfl
set_option maxRecDepth 100000 in

/-- A type's entry is right, by looking. -/
theorem tyS {P : Program} {T : Nat} {e : TE} (i : TypeInfo) {d : TypeDesc} (hu : P.underlying T = some d) (hk : e.k.ok d := by first | rfl | exact ⟨_, rfl, rfl⟩ | exact ⟨_, _, _, rfl⟩ | exact ⟨_, rfl⟩) (hi : P.info? T = some i := by kernel_rfl)
    (h : ∃ z, i.size = e.size ∧ i.bytes = e.bytes ∧ i.zero = some z ∧ z.cells.toList = e.zero ∧ e.zero.length = e.size ∧ e.zero.all (·.oneCell') = true := by exact ⟨_, rfl, rfl, rfl, rfl, rfl, rfl⟩) : TyOk P T e := ⟨⟨i, h.choose, hi, h.choose_spec⟩, ⟨d, hu, hk⟩⟩
set_option maxRecDepth 20000 in
theorem Tryz.tab : TabOk Tryz.prog Tryz.τ := by
  intro T e h
  have hL : AllOk Tryz.prog 0 Tryz.tL := by
    unfold Tryz.tL
    refine ⟨tyS Tryz.t1 Tryz.underlying1, ?_⟩
    refine ⟨tyS Tryz.t2 Tryz.underlying2, ?_⟩
    refine ⟨tyS Tryz.t3 Tryz.underlying3, ?_⟩
    refine ⟨tyS Tryz.t4 Tryz.underlying4, ?_⟩
    refine ⟨tyS Tryz.t5 Tryz.underlying5, ?_⟩
    refine ⟨tyS Tryz.t6 Tryz.underlying6, ?_⟩
    refine ⟨tyS Tryz.t7 Tryz.underlying7, ?_⟩
    refine ⟨tyS Tryz.t8 Tryz.underlying8, ?_⟩
    refine ⟨tyS Tryz.t9 Tryz.underlying9, ?_⟩
    refine ⟨tyS Tryz.t10 Tryz.underlying10, ?_⟩
    refine ⟨tyS Tryz.t11 Tryz.underlying11, ?_⟩
    refine ⟨tyS Tryz.t12 Tryz.underlying12, ?_⟩
    refine ⟨tyS Tryz.t13 Tryz.underlying13, ?_⟩
    refine ⟨tyS Tryz.t14 Tryz.underlying14, ?_⟩
    refine ⟨tyS Tryz.t15 Tryz.underlying15, ?_⟩
    refine ⟨tyS Tryz.t16 Tryz.underlying16, ?_⟩
    refine ⟨tyS Tryz.t17 Tryz.underlying17, ?_⟩
    refine ⟨tyS Tryz.t18 Tryz.underlying18, ?_⟩
    refine ⟨tyS Tryz.t19 Tryz.underlying19, ?_⟩
    refine ⟨tyS Tryz.t20 Tryz.underlying20, ?_⟩
    refine ⟨tyS Tryz.t21 Tryz.underlying21, ?_⟩
    refine ⟨tyS Tryz.t22 Tryz.underlying22, ?_⟩
    refine ⟨tyS Tryz.t23 Tryz.underlying23, ?_⟩
    refine ⟨tyS Tryz.t24 Tryz.underlying24, ?_⟩
    refine ⟨tyS Tryz.t25 Tryz.underlying25, ?_⟩
    refine ⟨tyS Tryz.t26 Tryz.underlying26, ?_⟩
    refine ⟨tyS Tryz.t27 Tryz.underlying27, ?_⟩
    refine ⟨tyS Tryz.t28 Tryz.underlying28, ?_⟩
    refine ⟨tyS Tryz.t29 Tryz.underlying29, ?_⟩
    refine ⟨tyS Tryz.t30 Tryz.underlying30, ?_⟩
    refine ⟨tyS Tryz.t31 Tryz.underlying31, ?_⟩
    refine ⟨tyS Tryz.t32 Tryz.underlying32, ?_⟩
    refine ⟨tyS Tryz.t33 Tryz.underlying33, ?_⟩
    refine ⟨tyS Tryz.t34 Tryz.underlying34, ?_⟩
    refine ⟨tyS Tryz.t35 Tryz.underlying35, ?_⟩
    refine ⟨tyS Tryz.t36 Tryz.underlying36, ?_⟩
    refine ⟨tyS Tryz.t37 Tryz.underlying37, ?_⟩
    refine ⟨tyS Tryz.t38 Tryz.underlying38, ?_⟩
    refine ⟨tyS Tryz.t39 Tryz.underlying39, ?_⟩
    refine ⟨tyS Tryz.t40 Tryz.underlying40, ?_⟩
    refine ⟨tyS Tryz.t41 Tryz.underlying41, ?_⟩
    refine ⟨tyS Tryz.t42 Tryz.underlying42, ?_⟩
    refine ⟨tyS Tryz.t43 Tryz.underlying43, ?_⟩
    refine ⟨tyS Tryz.t44 Tryz.underlying44, ?_⟩
    refine ⟨tyS Tryz.t45 Tryz.underlying45, ?_⟩
    refine ⟨tyS Tryz.t46 Tryz.underlying46, ?_⟩
    refine ⟨tyS Tryz.t47 Tryz.underlying47, ?_⟩
    refine ⟨tyS Tryz.t48 Tryz.underlying48, ?_⟩
    refine ⟨tyS Tryz.t49 Tryz.underlying49, ?_⟩
    refine ⟨tyS Tryz.t50 Tryz.underlying50, ?_⟩
    refine ⟨tyS Tryz.t51 Tryz.underlying51, ?_⟩
    refine ⟨tyS Tryz.t52 Tryz.underlying52, ?_⟩
    refine ⟨tyS Tryz.t53 Tryz.underlying53, ?_⟩
    refine ⟨tyS Tryz.t54 Tryz.underlying54, ?_⟩
    refine ⟨tyS Tryz.t55 Tryz.underlying55, ?_⟩
    refine ⟨tyS Tryz.t56 Tryz.underlying56, ?_⟩
    refine ⟨tyS Tryz.t57 Tryz.underlying57, ?_⟩
    refine ⟨tyS Tryz.t58 Tryz.underlying58, ?_⟩
    refine ⟨tyS Tryz.t59 Tryz.underlying59, ?_⟩
    refine ⟨tyS Tryz.t60 Tryz.underlying60, ?_⟩
    refine ⟨tyS Tryz.t61 Tryz.underlying61, ?_⟩
    refine ⟨tyS Tryz.t63 Tryz.underlying63, ?_⟩
    refine ⟨tyS Tryz.t64 Tryz.underlying64, ?_⟩
    refine ⟨tyS Tryz.t65 Tryz.underlying65, ?_⟩
    refine ⟨tyS Tryz.t66 Tryz.underlying66, ?_⟩
    refine ⟨tyS Tryz.t67 Tryz.underlying67, ?_⟩
    refine ⟨tyS Tryz.t68 Tryz.underlying68, ?_⟩
    refine ⟨tyS Tryz.t69 Tryz.underlying69, ?_⟩
    refine ⟨tyS Tryz.t70 Tryz.underlying70, ?_⟩
    refine ⟨tyS Tryz.t71 Tryz.underlying71, ?_⟩
    refine ⟨tyS Tryz.t72 Tryz.underlying72, ?_⟩
    refine ⟨tyS Tryz.t73 Tryz.underlying73, ?_⟩
    refine ⟨tyS Tryz.t74 Tryz.underlying74, ?_⟩
    refine ⟨tyS Tryz.t75 Tryz.underlying75, ?_⟩
    refine ⟨tyS Tryz.t76 Tryz.underlying76, ?_⟩
    refine ⟨tyS Tryz.t77 Tryz.underlying77, ?_⟩
    refine ⟨tyS Tryz.t78 Tryz.underlying78, ?_⟩
    refine ⟨tyS Tryz.t79 Tryz.underlying79, ?_⟩
    refine ⟨tyS Tryz.t80 Tryz.underlying80, ?_⟩
    refine ⟨tyS Tryz.t81 Tryz.underlying81, ?_⟩
    refine ⟨tyS Tryz.t82 Tryz.underlying82, ?_⟩
    refine ⟨tyS Tryz.t83 Tryz.underlying83, ?_⟩
    refine ⟨tyS Tryz.t84 Tryz.underlying84, ?_⟩
    refine ⟨tyS Tryz.t85 Tryz.underlying85, ?_⟩
    refine ⟨tyS Tryz.t86 Tryz.underlying86, ?_⟩
    refine ⟨tyS Tryz.t87 Tryz.underlying87, ?_⟩
    refine ⟨tyS Tryz.t88 Tryz.underlying88, ?_⟩
    refine ⟨tyS Tryz.t89 Tryz.underlying89, ?_⟩
    refine ⟨tyS Tryz.t90 Tryz.underlying90, ?_⟩
    refine ⟨tyS Tryz.t91 Tryz.underlying91, ?_⟩
    refine ⟨tyS Tryz.t92 Tryz.underlying92, ?_⟩
    refine ⟨tyS Tryz.t93 Tryz.underlying93, ?_⟩
    refine ⟨tyS Tryz.t94 Tryz.underlying94, ?_⟩
    refine ⟨tyS Tryz.t95 Tryz.underlying95, ?_⟩
    refine ⟨tyS Tryz.t96 Tryz.underlying96, ?_⟩
    refine ⟨tyS Tryz.t97 Tryz.underlying97, ?_⟩
    refine ⟨tyS Tryz.t98 Tryz.underlying98, ?_⟩
    refine ⟨tyS Tryz.t99 Tryz.underlying99, ?_⟩
    refine ⟨tyS Tryz.t100 Tryz.underlying100, ?_⟩
    refine ⟨tyS Tryz.t101 Tryz.underlying101, ?_⟩
    refine ⟨tyS Tryz.t102 Tryz.underlying102, ?_⟩
    refine ⟨tyS Tryz.t103 Tryz.underlying103, ?_⟩
    refine ⟨tyS Tryz.t104 Tryz.underlying104, ?_⟩
    refine ⟨tyS Tryz.t105 Tryz.underlying105, ?_⟩
    refine ⟨tyS Tryz.t106 Tryz.underlying106, ?_⟩
    refine ⟨tyS Tryz.t107 Tryz.underlying107, ?_⟩
    refine ⟨tyS Tryz.t108 Tryz.underlying108, ?_⟩
    refine ⟨tyS Tryz.t109 Tryz.underlying109, ?_⟩
    refine ⟨tyS Tryz.t110 Tryz.underlying110, ?_⟩
    refine ⟨tyS Tryz.t111 Tryz.underlying111, ?_⟩
    refine ⟨tyS Tryz.t112 Tryz.underlying112, ?_⟩
    refine ⟨tyS Tryz.t113 Tryz.underlying113, ?_⟩
    refine ⟨tyS Tryz.t114 Tryz.underlying114, ?_⟩
    refine ⟨tyS Tryz.t115 Tryz.underlying115, ?_⟩
    refine ⟨tyS Tryz.t116 Tryz.underlying116, ?_⟩
    refine ⟨tyS Tryz.t117 Tryz.underlying117, ?_⟩
    refine ⟨tyS Tryz.t118 Tryz.underlying118, ?_⟩
    refine ⟨tyS Tryz.t119 Tryz.underlying119, ?_⟩
    refine ⟨tyS Tryz.t120 Tryz.underlying120, ?_⟩
    refine ⟨tyS Tryz.t121 Tryz.underlying121, ?_⟩
    refine ⟨tyS Tryz.t122 Tryz.underlying122, ?_⟩
    refine ⟨tyS Tryz.t123 Tryz.underlying123, ?_⟩
    refine ⟨tyS Tryz.t125 Tryz.underlying125, ?_⟩
    refine ⟨tyS Tryz.t126 Tryz.underlying126, ?_⟩
    refine ⟨tyS Tryz.t127 Tryz.underlying127, ?_⟩
    refine ⟨tyS Tryz.t129 Tryz.underlying129, ?_⟩
    refine ⟨tyS Tryz.t130 Tryz.underlying130, ?_⟩
    refine ⟨tyS Tryz.t131 Tryz.underlying131, ?_⟩
    refine ⟨tyS Tryz.t132 Tryz.underlying132, ?_⟩
    refine ⟨tyS Tryz.t133 Tryz.underlying133, ?_⟩
    refine ⟨tyS Tryz.t134 Tryz.underlying134, ?_⟩
    refine ⟨tyS Tryz.t135 Tryz.underlying135, ?_⟩
    refine ⟨tyS Tryz.t136 Tryz.underlying136, ?_⟩
    refine ⟨tyS Tryz.t137 Tryz.underlying137, ?_⟩
    refine ⟨tyS Tryz.t138 Tryz.underlying138, ?_⟩
    refine ⟨tyS Tryz.t139 Tryz.underlying139, ?_⟩
    refine ⟨tyS Tryz.t140 Tryz.underlying140, ?_⟩
    refine ⟨tyS Tryz.t141 Tryz.underlying141, ?_⟩
    refine ⟨tyS Tryz.t142 Tryz.underlying142, ?_⟩
    refine ⟨tyS Tryz.t143 Tryz.underlying143, ?_⟩
    refine ⟨tyS Tryz.t144 Tryz.underlying144, ?_⟩
    refine ⟨tyS Tryz.t145 Tryz.underlying145, ?_⟩
    refine ⟨tyS Tryz.t146 Tryz.underlying146, ?_⟩
    refine ⟨tyS Tryz.t147 Tryz.underlying147, ?_⟩
    refine ⟨tyS Tryz.t148 Tryz.underlying148, ?_⟩
    refine ⟨tyS Tryz.t149 Tryz.underlying149, ?_⟩
    refine ⟨tyS Tryz.t150 Tryz.underlying150, ?_⟩
    refine ⟨tyS Tryz.t152 Tryz.underlying152, ?_⟩
    refine ⟨tyS Tryz.t153 Tryz.underlying153, ?_⟩
    refine ⟨tyS Tryz.t154 Tryz.underlying154, ?_⟩
    refine ⟨tyS Tryz.t155 Tryz.underlying155, ?_⟩
    refine ⟨tyS Tryz.t156 Tryz.underlying156, ?_⟩
    refine ⟨tyS Tryz.t157 Tryz.underlying157, ?_⟩
    refine ⟨tyS Tryz.t158 Tryz.underlying158, ?_⟩
    refine ⟨tyS Tryz.t160 Tryz.underlying160, ?_⟩
    refine ⟨tyS Tryz.t161 Tryz.underlying161, ?_⟩
    refine ⟨tyS Tryz.t162 Tryz.underlying162, ?_⟩
    refine ⟨tyS Tryz.t163 Tryz.underlying163, ?_⟩
    refine ⟨tyS Tryz.t164 Tryz.underlying164, ?_⟩
    refine ⟨tyS Tryz.t165 Tryz.underlying165, ?_⟩
    refine ⟨tyS Tryz.t166 Tryz.underlying166, ?_⟩
    refine ⟨tyS Tryz.t167 Tryz.underlying167, ?_⟩
    refine ⟨tyS Tryz.t168 Tryz.underlying168, ?_⟩
    refine ⟨tyS Tryz.t169 Tryz.underlying169, ?_⟩
    refine ⟨tyS Tryz.t170 Tryz.underlying170, ?_⟩
    refine ⟨tyS Tryz.t171 Tryz.underlying171, ?_⟩
    refine ⟨tyS Tryz.t172 Tryz.underlying172, ?_⟩
    refine ⟨tyS Tryz.t173 Tryz.underlying173, ?_⟩
    refine ⟨tyS Tryz.t175 Tryz.underlying175, ?_⟩
    refine ⟨tyS Tryz.t176 Tryz.underlying176, ?_⟩
    refine ⟨tyS Tryz.t177 Tryz.underlying177, ?_⟩
    refine ⟨tyS Tryz.t178 Tryz.underlying178, ?_⟩
    refine ⟨tyS Tryz.t179 Tryz.underlying179, ?_⟩
    refine ⟨tyS Tryz.t180 Tryz.underlying180, ?_⟩
    refine ⟨tyS Tryz.t181 Tryz.underlying181, ?_⟩
    refine ⟨tyS Tryz.t182 Tryz.underlying182, ?_⟩
    refine ⟨tyS Tryz.t183 Tryz.underlying183, ?_⟩
    refine ⟨tyS Tryz.t184 Tryz.underlying184, ?_⟩
    refine ⟨tyS Tryz.t185 Tryz.underlying185, ?_⟩
    refine ⟨tyS Tryz.t186 Tryz.underlying186, ?_⟩
    refine ⟨tyS Tryz.t187 Tryz.underlying187, ?_⟩
    refine ⟨tyS Tryz.t188 Tryz.underlying188, ?_⟩
    refine ⟨tyS Tryz.t189 Tryz.underlying189, ?_⟩
    refine ⟨tyS Tryz.t190 Tryz.underlying190, ?_⟩
    refine ⟨tyS Tryz.t191 Tryz.underlying191, ?_⟩
    refine ⟨tyS Tryz.t192 Tryz.underlying192, ?_⟩
    refine ⟨tyS Tryz.t193 Tryz.underlying193, ?_⟩
    refine ⟨tyS Tryz.t194 Tryz.underlying194, ?_⟩
    refine ⟨tyS Tryz.t195 Tryz.underlying195, ?_⟩
    refine ⟨tyS Tryz.t196 Tryz.underlying196, ?_⟩
    refine ⟨tyS Tryz.t197 Tryz.underlying197, ?_⟩
    refine ⟨tyS Tryz.t198 Tryz.underlying198, ?_⟩
    refine ⟨tyS Tryz.t199 Tryz.underlying199, ?_⟩
    refine ⟨tyS Tryz.t200 Tryz.underlying200, ?_⟩
    refine ⟨tyS Tryz.t201 Tryz.underlying201, ?_⟩
    refine ⟨tyS Tryz.t202 Tryz.underlying202, ?_⟩
    refine ⟨tyS Tryz.t203 Tryz.underlying203, ?_⟩
    refine ⟨tyS Tryz.t204 Tryz.underlying204, ?_⟩
    refine ⟨tyS Tryz.t205 Tryz.underlying205, ?_⟩
    refine ⟨tyS Tryz.t206 Tryz.underlying206, ?_⟩
    refine ⟨tyS Tryz.t207 Tryz.underlying207, ?_⟩
    refine ⟨tyS Tryz.t208 Tryz.underlying208, ?_⟩
    refine ⟨tyS Tryz.t209 Tryz.underlying209, ?_⟩
    refine ⟨tyS Tryz.t210 Tryz.underlying210, ?_⟩
    refine ⟨tyS Tryz.t211 Tryz.underlying211, ?_⟩
    refine ⟨tyS Tryz.t212 Tryz.underlying212, ?_⟩
    refine ⟨tyS Tryz.t213 Tryz.underlying213, ?_⟩
    refine ⟨tyS Tryz.t214 Tryz.underlying214, ?_⟩
    refine ⟨tyS Tryz.t215 Tryz.underlying215, ?_⟩
    refine ⟨tyS Tryz.t216 Tryz.underlying216, ?_⟩
    refine ⟨tyS Tryz.t217 Tryz.underlying217, ?_⟩
    refine ⟨tyS Tryz.t218 Tryz.underlying218, ?_⟩
    refine ⟨tyS Tryz.t219 Tryz.underlying219, ?_⟩
    refine ⟨tyS Tryz.t220 Tryz.underlying220, ?_⟩
    refine ⟨tyS Tryz.t221 Tryz.underlying221, ?_⟩
    refine ⟨tyS Tryz.t222 Tryz.underlying222, ?_⟩
    refine ⟨tyS Tryz.t223 Tryz.underlying223, ?_⟩
    refine ⟨tyS Tryz.t224 Tryz.underlying224, ?_⟩
    refine ⟨tyS Tryz.t225 Tryz.underlying225, ?_⟩
    refine ⟨tyS Tryz.t227 Tryz.underlying227, ?_⟩
    refine ⟨tyS Tryz.t228 Tryz.underlying228, ?_⟩
    refine ⟨tyS Tryz.t229 Tryz.underlying229, ?_⟩
    refine ⟨tyS Tryz.t230 Tryz.underlying230, ?_⟩
    refine ⟨tyS Tryz.t231 Tryz.underlying231, ?_⟩
    refine ⟨tyS Tryz.t232 Tryz.underlying232, ?_⟩
    refine ⟨tyS Tryz.t233 Tryz.underlying233, ?_⟩
    refine ⟨tyS Tryz.t234 Tryz.underlying234, ?_⟩
    refine ⟨tyS Tryz.t235 Tryz.underlying235, ?_⟩
    refine ⟨tyS Tryz.t236 Tryz.underlying236, ?_⟩
    refine ⟨tyS Tryz.t237 Tryz.underlying237, ?_⟩
    refine ⟨tyS Tryz.t238 Tryz.underlying238, ?_⟩
    refine ⟨tyS Tryz.t239 Tryz.underlying239, ?_⟩
    refine ⟨tyS Tryz.t240 Tryz.underlying240, ?_⟩
    refine ⟨tyS Tryz.t241 Tryz.underlying241, ?_⟩
    refine ⟨tyS Tryz.t243 Tryz.underlying243, ?_⟩
    refine ⟨tyS Tryz.t244 Tryz.underlying244, ?_⟩
    refine ⟨tyS Tryz.t245 Tryz.underlying245, ?_⟩
    refine ⟨tyS Tryz.t246 Tryz.underlying246, ?_⟩
    refine ⟨tyS Tryz.t247 Tryz.underlying247, ?_⟩
    refine ⟨tyS Tryz.t248 Tryz.underlying248, ?_⟩
    refine ⟨tyS Tryz.t249 Tryz.underlying249, ?_⟩
    refine ⟨tyS Tryz.t250 Tryz.underlying250, ?_⟩
    refine ⟨tyS Tryz.t251 Tryz.underlying251, ?_⟩
    refine ⟨tyS Tryz.t252 Tryz.underlying252, ?_⟩
    refine ⟨tyS Tryz.t253 Tryz.underlying253, ?_⟩
    refine ⟨tyS Tryz.t254 Tryz.underlying254, ?_⟩
    refine ⟨tyS Tryz.t255 Tryz.underlying255, ?_⟩
    refine ⟨tyS Tryz.t256 Tryz.underlying256, ?_⟩
    refine ⟨tyS Tryz.t257 Tryz.underlying257, ?_⟩
    refine ⟨tyS Tryz.t258 Tryz.underlying258, ?_⟩
    refine ⟨tyS Tryz.t259 Tryz.underlying259, ?_⟩
    refine ⟨tyS Tryz.t260 Tryz.underlying260, ?_⟩
    refine ⟨tyS Tryz.t261 Tryz.underlying261, ?_⟩
    refine ⟨tyS Tryz.t262 Tryz.underlying262, ?_⟩
    refine ⟨tyS Tryz.t263 Tryz.underlying263, ?_⟩
    refine ⟨tyS Tryz.t264 Tryz.underlying264, ?_⟩
    refine ⟨tyS Tryz.t265 Tryz.underlying265, ?_⟩
    refine ⟨tyS Tryz.t266 Tryz.underlying266, ?_⟩
    refine ⟨tyS Tryz.t267 Tryz.underlying267, ?_⟩
    refine ⟨tyS Tryz.t268 Tryz.underlying268, ?_⟩
    refine ⟨tyS Tryz.t269 Tryz.underlying269, ?_⟩
    refine ⟨tyS Tryz.t270 Tryz.underlying270, ?_⟩
    refine ⟨tyS Tryz.t271 Tryz.underlying271, ?_⟩
    refine ⟨tyS Tryz.t272 Tryz.underlying272, ?_⟩
    refine ⟨tyS Tryz.t273 Tryz.underlying273, ?_⟩
    refine ⟨tyS Tryz.t274 Tryz.underlying274, ?_⟩
    refine ⟨tyS Tryz.t275 Tryz.underlying275, ?_⟩
    refine ⟨tyS Tryz.t276 Tryz.underlying276, ?_⟩
    refine ⟨tyS Tryz.t277 Tryz.underlying277, ?_⟩
    refine ⟨tyS Tryz.t278 Tryz.underlying278, ?_⟩
    refine ⟨tyS Tryz.t279 Tryz.underlying279, ?_⟩
    refine ⟨tyS Tryz.t280 Tryz.underlying280, ?_⟩
    refine ⟨tyS Tryz.t281 Tryz.underlying281, ?_⟩
    refine ⟨tyS Tryz.t282 Tryz.underlying282, ?_⟩
    refine ⟨tyS Tryz.t283 Tryz.underlying283, ?_⟩
    refine ⟨tyS Tryz.t284 Tryz.underlying284, ?_⟩
    refine ⟨tyS Tryz.t285 Tryz.underlying285, ?_⟩
    refine ⟨tyS Tryz.t286 Tryz.underlying286, ?_⟩
    refine ⟨tyS Tryz.t287 Tryz.underlying287, ?_⟩
    refine ⟨tyS Tryz.t288 Tryz.underlying288, ?_⟩
    refine ⟨tyS Tryz.t289 Tryz.underlying289, ?_⟩
    refine ⟨tyS Tryz.t290 Tryz.underlying290, ?_⟩
    refine ⟨tyS Tryz.t291 Tryz.underlying291, ?_⟩
    refine ⟨tyS Tryz.t292 Tryz.underlying292, ?_⟩
    exact trivial
  unfold Tryz.τ at h
  have h2 : Tryz.tL[T]? = some (some e) := by
    cases ht : Tryz.tL[T]? with
    | none => rw [ht] at h; cases h
    | some x => rw [ht] at h; exact congrArg some h
  have := AllOk.at _ 0 T e hL h2
  rwa [Nat.zero_add] at this

theorem Tryz.mixed : Tryz.prog.follows .mixedOrders = true := by kernel_rfl

theorem Tryz.body4 : Body Tryz.prog 4 := ⟨Tryz.f4, _, Tryz.func4, rfl, by kernel_rfl⟩
theorem Tryz.body5 : Body Tryz.prog 5 := ⟨Tryz.f5, _, Tryz.func5, rfl, by kernel_rfl⟩
theorem Tryz.body6 : Body Tryz.prog 6 := ⟨Tryz.f6, _, Tryz.func6, rfl, by kernel_rfl⟩
theorem Tryz.body7 : Body Tryz.prog 7 := ⟨Tryz.f7, _, Tryz.func7, rfl, by kernel_rfl⟩
theorem Tryz.body8 : Body Tryz.prog 8 := ⟨Tryz.f8, _, Tryz.func8, rfl, by kernel_rfl⟩
theorem Tryz.body9 : Body Tryz.prog 9 := ⟨Tryz.f9, _, Tryz.func9, rfl, by kernel_rfl⟩
theorem Tryz.body10 : Body Tryz.prog 10 := ⟨Tryz.f10, _, Tryz.func10, rfl, by kernel_rfl⟩
theorem Tryz.body11 : Body Tryz.prog 11 := ⟨Tryz.f11, _, Tryz.func11, rfl, by kernel_rfl⟩
theorem Tryz.body12 : Body Tryz.prog 12 := ⟨Tryz.f12, _, Tryz.func12, rfl, by kernel_rfl⟩
theorem Tryz.body13 : Body Tryz.prog 13 := ⟨Tryz.f13, _, Tryz.func13, rfl, by kernel_rfl⟩
theorem Tryz.body14 : Body Tryz.prog 14 := ⟨Tryz.f14, _, Tryz.func14, rfl, by kernel_rfl⟩
theorem Tryz.body15 : Body Tryz.prog 15 := ⟨Tryz.f15, _, Tryz.func15, rfl, by kernel_rfl⟩
theorem Tryz.body16 : Body Tryz.prog 16 := ⟨Tryz.f16, _, Tryz.func16, rfl, by kernel_rfl⟩
theorem Tryz.body17 : Body Tryz.prog 17 := ⟨Tryz.f17, _, Tryz.func17, rfl, by kernel_rfl⟩
theorem Tryz.body18 : Body Tryz.prog 18 := ⟨Tryz.f18, _, Tryz.func18, rfl, by kernel_rfl⟩
theorem Tryz.body19 : Body Tryz.prog 19 := ⟨Tryz.f19, _, Tryz.func19, rfl, by kernel_rfl⟩
theorem Tryz.body20 : Body Tryz.prog 20 := ⟨Tryz.f20, _, Tryz.func20, rfl, by kernel_rfl⟩
theorem Tryz.body21 : Body Tryz.prog 21 := ⟨Tryz.f21, _, Tryz.func21, rfl, by kernel_rfl⟩
theorem Tryz.body22 : Body Tryz.prog 22 := ⟨Tryz.f22, _, Tryz.func22, rfl, by kernel_rfl⟩
theorem Tryz.body23 : Body Tryz.prog 23 := ⟨Tryz.f23, _, Tryz.func23, rfl, by kernel_rfl⟩
theorem Tryz.body24 : Body Tryz.prog 24 := ⟨Tryz.f24, _, Tryz.func24, rfl, by kernel_rfl⟩
theorem Tryz.body25 : Body Tryz.prog 25 := ⟨Tryz.f25, _, Tryz.func25, rfl, by kernel_rfl⟩
theorem Tryz.body26 : Body Tryz.prog 26 := ⟨Tryz.f26, _, Tryz.func26, rfl, by kernel_rfl⟩
theorem Tryz.body27 : Body Tryz.prog 27 := ⟨Tryz.f27, _, Tryz.func27, rfl, by kernel_rfl⟩
theorem Tryz.body28 : Body Tryz.prog 28 := ⟨Tryz.f28, _, Tryz.func28, rfl, by kernel_rfl⟩
theorem Tryz.body29 : Body Tryz.prog 29 := ⟨Tryz.f29, _, Tryz.func29, rfl, by kernel_rfl⟩
theorem Tryz.body30 : Body Tryz.prog 30 := ⟨Tryz.f30, _, Tryz.func30, rfl, by kernel_rfl⟩
theorem Tryz.body31 : Body Tryz.prog 31 := ⟨Tryz.f31, _, Tryz.func31, rfl, by kernel_rfl⟩
theorem Tryz.body32 : Body Tryz.prog 32 := ⟨Tryz.f32, _, Tryz.func32, rfl, by kernel_rfl⟩
theorem Tryz.body33 : Body Tryz.prog 33 := ⟨Tryz.f33, _, Tryz.func33, rfl, by kernel_rfl⟩
theorem Tryz.body34 : Body Tryz.prog 34 := ⟨Tryz.f34, _, Tryz.func34, rfl, by kernel_rfl⟩
theorem Tryz.body35 : Body Tryz.prog 35 := ⟨Tryz.f35, _, Tryz.func35, rfl, by kernel_rfl⟩
theorem Tryz.body36 : Body Tryz.prog 36 := ⟨Tryz.f36, _, Tryz.func36, rfl, by kernel_rfl⟩
theorem Tryz.body37 : Body Tryz.prog 37 := ⟨Tryz.f37, _, Tryz.func37, rfl, by kernel_rfl⟩
theorem Tryz.body38 : Body Tryz.prog 38 := ⟨Tryz.f38, _, Tryz.func38, rfl, by kernel_rfl⟩
theorem Tryz.body39 : Body Tryz.prog 39 := ⟨Tryz.f39, _, Tryz.func39, rfl, by kernel_rfl⟩
theorem Tryz.body40 : Body Tryz.prog 40 := ⟨Tryz.f40, _, Tryz.func40, rfl, by kernel_rfl⟩
theorem Tryz.body41 : Body Tryz.prog 41 := ⟨Tryz.f41, _, Tryz.func41, rfl, by kernel_rfl⟩
theorem Tryz.body42 : Body Tryz.prog 42 := ⟨Tryz.f42, _, Tryz.func42, rfl, by kernel_rfl⟩
theorem Tryz.body43 : Body Tryz.prog 43 := ⟨Tryz.f43, _, Tryz.func43, rfl, by kernel_rfl⟩
theorem Tryz.body44 : Body Tryz.prog 44 := ⟨Tryz.f44, _, Tryz.func44, rfl, by kernel_rfl⟩
theorem Tryz.body45 : Body Tryz.prog 45 := ⟨Tryz.f45, _, Tryz.func45, rfl, by kernel_rfl⟩
theorem Tryz.body46 : Body Tryz.prog 46 := ⟨Tryz.f46, _, Tryz.func46, rfl, by kernel_rfl⟩
theorem Tryz.body47 : Body Tryz.prog 47 := ⟨Tryz.f47, _, Tryz.func47, rfl, by kernel_rfl⟩
theorem Tryz.body48 : Body Tryz.prog 48 := ⟨Tryz.f48, _, Tryz.func48, rfl, by kernel_rfl⟩
theorem Tryz.body49 : Body Tryz.prog 49 := ⟨Tryz.f49, _, Tryz.func49, rfl, by kernel_rfl⟩
theorem Tryz.body51 : Body Tryz.prog 51 := ⟨Tryz.f51, _, Tryz.func51, rfl, by kernel_rfl⟩
theorem Tryz.body52 : Body Tryz.prog 52 := ⟨Tryz.f52, _, Tryz.func52, rfl, by kernel_rfl⟩
theorem Tryz.body53 : Body Tryz.prog 53 := ⟨Tryz.f53, _, Tryz.func53, rfl, by kernel_rfl⟩
theorem Tryz.body54 : Body Tryz.prog 54 := ⟨Tryz.f54, _, Tryz.func54, rfl, by kernel_rfl⟩
theorem Tryz.body55 : Body Tryz.prog 55 := ⟨Tryz.f55, _, Tryz.func55, rfl, by kernel_rfl⟩
theorem Tryz.body56 : Body Tryz.prog 56 := ⟨Tryz.f56, _, Tryz.func56, rfl, by kernel_rfl⟩
theorem Tryz.body57 : Body Tryz.prog 57 := ⟨Tryz.f57, _, Tryz.func57, rfl, by kernel_rfl⟩
theorem Tryz.body58 : Body Tryz.prog 58 := ⟨Tryz.f58, _, Tryz.func58, rfl, by kernel_rfl⟩
theorem Tryz.body59 : Body Tryz.prog 59 := ⟨Tryz.f59, _, Tryz.func59, rfl, by kernel_rfl⟩
theorem Tryz.body60 : Body Tryz.prog 60 := ⟨Tryz.f60, _, Tryz.func60, rfl, by kernel_rfl⟩
theorem Tryz.body61 : Body Tryz.prog 61 := ⟨Tryz.f61, _, Tryz.func61, rfl, by kernel_rfl⟩
theorem Tryz.body62 : Body Tryz.prog 62 := ⟨Tryz.f62, _, Tryz.func62, rfl, by kernel_rfl⟩
theorem Tryz.body63 : Body Tryz.prog 63 := ⟨Tryz.f63, _, Tryz.func63, rfl, by kernel_rfl⟩
theorem Tryz.body64 : Body Tryz.prog 64 := ⟨Tryz.f64, _, Tryz.func64, rfl, by kernel_rfl⟩
theorem Tryz.body65 : Body Tryz.prog 65 := ⟨Tryz.f65, _, Tryz.func65, rfl, by kernel_rfl⟩
theorem Tryz.body66 : Body Tryz.prog 66 := ⟨Tryz.f66, _, Tryz.func66, rfl, by kernel_rfl⟩
theorem Tryz.body67 : Body Tryz.prog 67 := ⟨Tryz.f67, _, Tryz.func67, rfl, by kernel_rfl⟩
theorem Tryz.body68 : Body Tryz.prog 68 := ⟨Tryz.f68, _, Tryz.func68, rfl, by kernel_rfl⟩
theorem Tryz.body69 : Body Tryz.prog 69 := ⟨Tryz.f69, _, Tryz.func69, rfl, by kernel_rfl⟩
theorem Tryz.body70 : Body Tryz.prog 70 := ⟨Tryz.f70, _, Tryz.func70, rfl, by kernel_rfl⟩
theorem Tryz.body71 : Body Tryz.prog 71 := ⟨Tryz.f71, _, Tryz.func71, rfl, by kernel_rfl⟩
theorem Tryz.body73 : Body Tryz.prog 73 := ⟨Tryz.f73, _, Tryz.func73, rfl, by kernel_rfl⟩
theorem Tryz.body74 : Body Tryz.prog 74 := ⟨Tryz.f74, _, Tryz.func74, rfl, by kernel_rfl⟩
theorem Tryz.body75 : Body Tryz.prog 75 := ⟨Tryz.f75, _, Tryz.func75, rfl, by kernel_rfl⟩
theorem Tryz.body78 : Body Tryz.prog 78 := ⟨Tryz.f78, _, Tryz.func78, rfl, by kernel_rfl⟩
theorem Tryz.body79 : Body Tryz.prog 79 := ⟨Tryz.f79, _, Tryz.func79, rfl, by kernel_rfl⟩
theorem Tryz.body80 : Body Tryz.prog 80 := ⟨Tryz.f80, _, Tryz.func80, rfl, by kernel_rfl⟩
theorem Tryz.body82 : Body Tryz.prog 82 := ⟨Tryz.f82, _, Tryz.func82, rfl, by kernel_rfl⟩
theorem Tryz.body83 : Body Tryz.prog 83 := ⟨Tryz.f83, _, Tryz.func83, rfl, by kernel_rfl⟩
theorem Tryz.body84 : Body Tryz.prog 84 := ⟨Tryz.f84, _, Tryz.func84, rfl, by kernel_rfl⟩
theorem Tryz.body85 : Body Tryz.prog 85 := ⟨Tryz.f85, _, Tryz.func85, rfl, by kernel_rfl⟩
theorem Tryz.body86 : Body Tryz.prog 86 := ⟨Tryz.f86, _, Tryz.func86, rfl, by kernel_rfl⟩
theorem Tryz.body87 : Body Tryz.prog 87 := ⟨Tryz.f87, _, Tryz.func87, rfl, by kernel_rfl⟩
theorem Tryz.body88 : Body Tryz.prog 88 := ⟨Tryz.f88, _, Tryz.func88, rfl, by kernel_rfl⟩
theorem Tryz.body94 : Body Tryz.prog 94 := ⟨Tryz.f94, _, Tryz.func94, rfl, by kernel_rfl⟩
theorem Tryz.body98 : Body Tryz.prog 98 := ⟨Tryz.f98, _, Tryz.func98, rfl, by kernel_rfl⟩
theorem Tryz.body99 : Body Tryz.prog 99 := ⟨Tryz.f99, _, Tryz.func99, rfl, by kernel_rfl⟩
theorem Tryz.body101 : Body Tryz.prog 101 := ⟨Tryz.f101, _, Tryz.func101, rfl, by kernel_rfl⟩
theorem Tryz.body104 : Body Tryz.prog 104 := ⟨Tryz.f104, _, Tryz.func104, rfl, by kernel_rfl⟩
theorem Tryz.body107 : Body Tryz.prog 107 := ⟨Tryz.f107, _, Tryz.func107, rfl, by kernel_rfl⟩
theorem Tryz.body108 : Body Tryz.prog 108 := ⟨Tryz.f108, _, Tryz.func108, rfl, by kernel_rfl⟩
theorem Tryz.body109 : Body Tryz.prog 109 := ⟨Tryz.f109, _, Tryz.func109, rfl, by kernel_rfl⟩
theorem Tryz.body110 : Body Tryz.prog 110 := ⟨Tryz.f110, _, Tryz.func110, rfl, by kernel_rfl⟩
theorem Tryz.body111 : Body Tryz.prog 111 := ⟨Tryz.f111, _, Tryz.func111, rfl, by kernel_rfl⟩
theorem Tryz.body120 : Body Tryz.prog 120 := ⟨Tryz.f120, _, Tryz.func120, rfl, by kernel_rfl⟩
theorem Tryz.body121 : Body Tryz.prog 121 := ⟨Tryz.f121, _, Tryz.func121, rfl, by kernel_rfl⟩
theorem Tryz.body122 : Body Tryz.prog 122 := ⟨Tryz.f122, _, Tryz.func122, rfl, by kernel_rfl⟩
theorem Tryz.body123 : Body Tryz.prog 123 := ⟨Tryz.f123, _, Tryz.func123, rfl, by kernel_rfl⟩
theorem Tryz.body124 : Body Tryz.prog 124 := ⟨Tryz.f124, _, Tryz.func124, rfl, by kernel_rfl⟩
theorem Tryz.body125 : Body Tryz.prog 125 := ⟨Tryz.f125, _, Tryz.func125, rfl, by kernel_rfl⟩
theorem Tryz.body126 : Body Tryz.prog 126 := ⟨Tryz.f126, _, Tryz.func126, rfl, by kernel_rfl⟩
theorem Tryz.body127 : Body Tryz.prog 127 := ⟨Tryz.f127, _, Tryz.func127, rfl, by kernel_rfl⟩
theorem Tryz.body128 : Body Tryz.prog 128 := ⟨Tryz.f128, _, Tryz.func128, rfl, by kernel_rfl⟩
theorem Tryz.body129 : Body Tryz.prog 129 := ⟨Tryz.f129, _, Tryz.func129, rfl, by kernel_rfl⟩
theorem Tryz.body130 : Body Tryz.prog 130 := ⟨Tryz.f130, _, Tryz.func130, rfl, by kernel_rfl⟩
theorem Tryz.body150 : Body Tryz.prog 150 := ⟨Tryz.f150, _, Tryz.func150, rfl, by kernel_rfl⟩
theorem Tryz.body151 : Body Tryz.prog 151 := ⟨Tryz.f151, _, Tryz.func151, rfl, by kernel_rfl⟩
theorem Tryz.body156 : Body Tryz.prog 156 := ⟨Tryz.f156, _, Tryz.func156, rfl, by kernel_rfl⟩
theorem Tryz.body157 : Body Tryz.prog 157 := ⟨Tryz.f157, _, Tryz.func157, rfl, by kernel_rfl⟩
theorem Tryz.body158 : Body Tryz.prog 158 := ⟨Tryz.f158, _, Tryz.func158, rfl, by kernel_rfl⟩
theorem Tryz.body169 : Body Tryz.prog 169 := ⟨Tryz.f169, _, Tryz.func169, rfl, by kernel_rfl⟩
theorem Tryz.body170 : Body Tryz.prog 170 := ⟨Tryz.f170, _, Tryz.func170, rfl, by kernel_rfl⟩
theorem Tryz.body171 : Body Tryz.prog 171 := ⟨Tryz.f171, _, Tryz.func171, rfl, by kernel_rfl⟩
theorem Tryz.body172 : Body Tryz.prog 172 := ⟨Tryz.f172, _, Tryz.func172, rfl, by kernel_rfl⟩
theorem Tryz.body173 : Body Tryz.prog 173 := ⟨Tryz.f173, _, Tryz.func173, rfl, by kernel_rfl⟩
theorem Tryz.body174 : Body Tryz.prog 174 := ⟨Tryz.f174, _, Tryz.func174, rfl, by kernel_rfl⟩
theorem Tryz.body176 : Body Tryz.prog 176 := ⟨Tryz.f176, _, Tryz.func176, rfl, by kernel_rfl⟩
theorem Tryz.body177 : Body Tryz.prog 177 := ⟨Tryz.f177, _, Tryz.func177, rfl, by kernel_rfl⟩
theorem Tryz.body178 : Body Tryz.prog 178 := ⟨Tryz.f178, _, Tryz.func178, rfl, by kernel_rfl⟩
theorem Tryz.body182 : Body Tryz.prog 182 := ⟨Tryz.f182, _, Tryz.func182, rfl, by kernel_rfl⟩
theorem Tryz.body183 : Body Tryz.prog 183 := ⟨Tryz.f183, _, Tryz.func183, rfl, by kernel_rfl⟩
theorem Tryz.body184 : Body Tryz.prog 184 := ⟨Tryz.f184, _, Tryz.func184, rfl, by kernel_rfl⟩
theorem Tryz.body185 : Body Tryz.prog 185 := ⟨Tryz.f185, _, Tryz.func185, rfl, by kernel_rfl⟩
instance : Glob := ⟨fun
  | 12 => some [.v (.int .u32 1779033703), .v (.int .u32 3144134277), .v (.int .u32 1013904242), .v (.int .u32 2773480762), .v (.int .u32 1359893119), .v (.int .u32 2600822924), .v (.int .u32 528734635), .v (.int .u32 1541459225)]
  | 13 => some [.v (.int .u8 0), .v (.int .u8 1), .v (.int .u8 2), .v (.int .u8 3), .v (.int .u8 4), .v (.int .u8 5), .v (.int .u8 6), .v (.int .u8 7), .v (.int .u8 8), .v (.int .u8 9), .v (.int .u8 10), .v (.int .u8 11), .v (.int .u8 12), .v (.int .u8 13), .v (.int .u8 14), .v (.int .u8 15), .v (.int .u8 14), .v (.int .u8 10), .v (.int .u8 4), .v (.int .u8 8), .v (.int .u8 9), .v (.int .u8 15), .v (.int .u8 13), .v (.int .u8 6), .v (.int .u8 1), .v (.int .u8 12), .v (.int .u8 0), .v (.int .u8 2), .v (.int .u8 11), .v (.int .u8 7), .v (.int .u8 5), .v (.int .u8 3), .v (.int .u8 11), .v (.int .u8 8), .v (.int .u8 12), .v (.int .u8 0), .v (.int .u8 5), .v (.int .u8 2), .v (.int .u8 15), .v (.int .u8 13), .v (.int .u8 10), .v (.int .u8 14), .v (.int .u8 3), .v (.int .u8 6), .v (.int .u8 7), .v (.int .u8 1), .v (.int .u8 9), .v (.int .u8 4), .v (.int .u8 7), .v (.int .u8 9), .v (.int .u8 3), .v (.int .u8 1), .v (.int .u8 13), .v (.int .u8 12), .v (.int .u8 11), .v (.int .u8 14), .v (.int .u8 2), .v (.int .u8 6), .v (.int .u8 5), .v (.int .u8 10), .v (.int .u8 4), .v (.int .u8 0), .v (.int .u8 15), .v (.int .u8 8), .v (.int .u8 9), .v (.int .u8 0), .v (.int .u8 5), .v (.int .u8 7), .v (.int .u8 2), .v (.int .u8 4), .v (.int .u8 10), .v (.int .u8 15), .v (.int .u8 14), .v (.int .u8 1), .v (.int .u8 11), .v (.int .u8 12), .v (.int .u8 6), .v (.int .u8 8), .v (.int .u8 3), .v (.int .u8 13), .v (.int .u8 2), .v (.int .u8 12), .v (.int .u8 6), .v (.int .u8 10), .v (.int .u8 0), .v (.int .u8 11), .v (.int .u8 8), .v (.int .u8 3), .v (.int .u8 4), .v (.int .u8 13), .v (.int .u8 7), .v (.int .u8 5), .v (.int .u8 15), .v (.int .u8 14), .v (.int .u8 1), .v (.int .u8 9), .v (.int .u8 12), .v (.int .u8 5), .v (.int .u8 1), .v (.int .u8 15), .v (.int .u8 14), .v (.int .u8 13), .v (.int .u8 4), .v (.int .u8 10), .v (.int .u8 0), .v (.int .u8 7), .v (.int .u8 6), .v (.int .u8 3), .v (.int .u8 9), .v (.int .u8 2), .v (.int .u8 8), .v (.int .u8 11), .v (.int .u8 13), .v (.int .u8 11), .v (.int .u8 7), .v (.int .u8 14), .v (.int .u8 12), .v (.int .u8 1), .v (.int .u8 3), .v (.int .u8 9), .v (.int .u8 5), .v (.int .u8 0), .v (.int .u8 15), .v (.int .u8 4), .v (.int .u8 8), .v (.int .u8 6), .v (.int .u8 2), .v (.int .u8 10), .v (.int .u8 6), .v (.int .u8 15), .v (.int .u8 14), .v (.int .u8 9), .v (.int .u8 11), .v (.int .u8 3), .v (.int .u8 0), .v (.int .u8 8), .v (.int .u8 12), .v (.int .u8 2), .v (.int .u8 13), .v (.int .u8 7), .v (.int .u8 1), .v (.int .u8 4), .v (.int .u8 10), .v (.int .u8 5), .v (.int .u8 10), .v (.int .u8 2), .v (.int .u8 8), .v (.int .u8 4), .v (.int .u8 7), .v (.int .u8 6), .v (.int .u8 1), .v (.int .u8 5), .v (.int .u8 15), .v (.int .u8 11), .v (.int .u8 9), .v (.int .u8 14), .v (.int .u8 3), .v (.int .u8 12), .v (.int .u8 13), .v (.int .u8 0)]
  | 1 => some [.v (.int .i64 (-1099511627776)), .v (.int .i64 1099511627776)]
  | 5 => some [.v (.int .i64 0), .v (.int .i64 1099511627776)]
  | 0 => some [.v (.int .i64 1), .v (.int .i64 9999)]
  | 3 => some [.v (.int .i64 0), .v (.int .i64 39)]
  | 4 => some [.v (.int .i64 0), .v (.int .i64 255)]
  | 2 => some [.v (.int .i64 0), .v (.int .i64 1048576)]
  | 6 => some [.v (.int .i64 0), .v (.int .i64 255)]
  | 7 => some [.v (.int .i64 1), .v (.int .i64 1048576)]
  | 9 => some [.v (.int .i64 0), .v (.int .i64 31)]
  | 10 => some [.v (.int .i64 1), .v (.int .i64 1048576)]
  | 8 => some [.v (.int .i64 0), .v (.int .i64 1)]
  | _ => none⟩
@[simp] theorem Tryz.laid12 : (Glob.laid 12 : Option (List D)) = some [.v (.int .u32 1779033703), .v (.int .u32 3144134277), .v (.int .u32 1013904242), .v (.int .u32 2773480762), .v (.int .u32 1359893119), .v (.int .u32 2600822924), .v (.int .u32 528734635), .v (.int .u32 1541459225)] := rfl
@[simp] theorem Tryz.laid13 : (Glob.laid 13 : Option (List D)) = some [.v (.int .u8 0), .v (.int .u8 1), .v (.int .u8 2), .v (.int .u8 3), .v (.int .u8 4), .v (.int .u8 5), .v (.int .u8 6), .v (.int .u8 7), .v (.int .u8 8), .v (.int .u8 9), .v (.int .u8 10), .v (.int .u8 11), .v (.int .u8 12), .v (.int .u8 13), .v (.int .u8 14), .v (.int .u8 15), .v (.int .u8 14), .v (.int .u8 10), .v (.int .u8 4), .v (.int .u8 8), .v (.int .u8 9), .v (.int .u8 15), .v (.int .u8 13), .v (.int .u8 6), .v (.int .u8 1), .v (.int .u8 12), .v (.int .u8 0), .v (.int .u8 2), .v (.int .u8 11), .v (.int .u8 7), .v (.int .u8 5), .v (.int .u8 3), .v (.int .u8 11), .v (.int .u8 8), .v (.int .u8 12), .v (.int .u8 0), .v (.int .u8 5), .v (.int .u8 2), .v (.int .u8 15), .v (.int .u8 13), .v (.int .u8 10), .v (.int .u8 14), .v (.int .u8 3), .v (.int .u8 6), .v (.int .u8 7), .v (.int .u8 1), .v (.int .u8 9), .v (.int .u8 4), .v (.int .u8 7), .v (.int .u8 9), .v (.int .u8 3), .v (.int .u8 1), .v (.int .u8 13), .v (.int .u8 12), .v (.int .u8 11), .v (.int .u8 14), .v (.int .u8 2), .v (.int .u8 6), .v (.int .u8 5), .v (.int .u8 10), .v (.int .u8 4), .v (.int .u8 0), .v (.int .u8 15), .v (.int .u8 8), .v (.int .u8 9), .v (.int .u8 0), .v (.int .u8 5), .v (.int .u8 7), .v (.int .u8 2), .v (.int .u8 4), .v (.int .u8 10), .v (.int .u8 15), .v (.int .u8 14), .v (.int .u8 1), .v (.int .u8 11), .v (.int .u8 12), .v (.int .u8 6), .v (.int .u8 8), .v (.int .u8 3), .v (.int .u8 13), .v (.int .u8 2), .v (.int .u8 12), .v (.int .u8 6), .v (.int .u8 10), .v (.int .u8 0), .v (.int .u8 11), .v (.int .u8 8), .v (.int .u8 3), .v (.int .u8 4), .v (.int .u8 13), .v (.int .u8 7), .v (.int .u8 5), .v (.int .u8 15), .v (.int .u8 14), .v (.int .u8 1), .v (.int .u8 9), .v (.int .u8 12), .v (.int .u8 5), .v (.int .u8 1), .v (.int .u8 15), .v (.int .u8 14), .v (.int .u8 13), .v (.int .u8 4), .v (.int .u8 10), .v (.int .u8 0), .v (.int .u8 7), .v (.int .u8 6), .v (.int .u8 3), .v (.int .u8 9), .v (.int .u8 2), .v (.int .u8 8), .v (.int .u8 11), .v (.int .u8 13), .v (.int .u8 11), .v (.int .u8 7), .v (.int .u8 14), .v (.int .u8 12), .v (.int .u8 1), .v (.int .u8 3), .v (.int .u8 9), .v (.int .u8 5), .v (.int .u8 0), .v (.int .u8 15), .v (.int .u8 4), .v (.int .u8 8), .v (.int .u8 6), .v (.int .u8 2), .v (.int .u8 10), .v (.int .u8 6), .v (.int .u8 15), .v (.int .u8 14), .v (.int .u8 9), .v (.int .u8 11), .v (.int .u8 3), .v (.int .u8 0), .v (.int .u8 8), .v (.int .u8 12), .v (.int .u8 2), .v (.int .u8 13), .v (.int .u8 7), .v (.int .u8 1), .v (.int .u8 4), .v (.int .u8 10), .v (.int .u8 5), .v (.int .u8 10), .v (.int .u8 2), .v (.int .u8 8), .v (.int .u8 4), .v (.int .u8 7), .v (.int .u8 6), .v (.int .u8 1), .v (.int .u8 5), .v (.int .u8 15), .v (.int .u8 11), .v (.int .u8 9), .v (.int .u8 14), .v (.int .u8 3), .v (.int .u8 12), .v (.int .u8 13), .v (.int .u8 0)] := rfl
@[simp] theorem Tryz.laid1 : (Glob.laid 1 : Option (List D)) = some [.v (.int .i64 (-1099511627776)), .v (.int .i64 1099511627776)] := rfl
@[simp] theorem Tryz.laid5 : (Glob.laid 5 : Option (List D)) = some [.v (.int .i64 0), .v (.int .i64 1099511627776)] := rfl
@[simp] theorem Tryz.laid0 : (Glob.laid 0 : Option (List D)) = some [.v (.int .i64 1), .v (.int .i64 9999)] := rfl
@[simp] theorem Tryz.laid3 : (Glob.laid 3 : Option (List D)) = some [.v (.int .i64 0), .v (.int .i64 39)] := rfl
@[simp] theorem Tryz.laid4 : (Glob.laid 4 : Option (List D)) = some [.v (.int .i64 0), .v (.int .i64 255)] := rfl
@[simp] theorem Tryz.laid2 : (Glob.laid 2 : Option (List D)) = some [.v (.int .i64 0), .v (.int .i64 1048576)] := rfl
@[simp] theorem Tryz.laid6 : (Glob.laid 6 : Option (List D)) = some [.v (.int .i64 0), .v (.int .i64 255)] := rfl
@[simp] theorem Tryz.laid7 : (Glob.laid 7 : Option (List D)) = some [.v (.int .i64 1), .v (.int .i64 1048576)] := rfl
@[simp] theorem Tryz.laid9 : (Glob.laid 9 : Option (List D)) = some [.v (.int .i64 0), .v (.int .i64 31)] := rfl
@[simp] theorem Tryz.laid10 : (Glob.laid 10 : Option (List D)) = some [.v (.int .i64 1), .v (.int .i64 1048576)] := rfl
@[simp] theorem Tryz.laid8 : (Glob.laid 8 : Option (List D)) = some [.v (.int .i64 0), .v (.int .i64 1)] := rfl

end Go.Proofs.YtadfkiigjnbdgaaGreatDoor

namespace Go.Proofs.YtadfkiigjnbdgaaGreatDoor
open Go.Xe
/-- Of two claims the first by the usual means. -/
theorem aI {p q : Prop} (hq : q) (hp : p := by first | rfl | omega | decide | (simp; done) | (simp; omega) | (intro _ h; exact fcs_side h; done) | (intros; simp_all; done) | (intros; simp_all; omega)) : p ∧ q := ⟨hp, hq⟩
/-- One step into a code of a told form. -/
class Gn (P : Program) (ds : Dn) (pn : Pn) (c : Code) (Q : Exit → St → Prop) (S : St) (G : outParam Prop) : Prop where
  go : G → WP P ds pn c Q S
instance (P : Program) (ds : Dn) (pn : Pn) (Q : Exit → St → Prop) (S : St) (x y : Code) : Gn P ds pn (.seq x y) Q S (WP P ds pn x (seqQ P ds pn y Q) S) := ⟨WP.seq⟩
instance (P : Program) (ds : Dn) (pn : Pn) (Q : Exit → St → Prop) (S : St) (id : Nat) (c : Code) : Gn P ds pn (.block id c) Q S (WP P ds pn c (blkQ id Q) S) := ⟨WP.block⟩
theorem wG {P : Program} {ds : Dn} {pn : Pn} {c : Code} {Q : Exit → St → Prop} {S : St} {G : Prop} [i : Gn P ds pn c Q S G] (g : G) : WP P ds pn c Q S := i.go g
theorem wR {ds : Dn} {pn : Pn} {Q : Exit → St → Prop} {S : St} {id : Nat} {l : List Oper} {b : Bool} (h : vcOps Tryz.prog ds pn Tryz.τ (l.map (·.dst)) (fun tis S' => (b = true → freshS S (tis.flatMap fun t => t.e.add)) ∧ (b = true → drawOkT (pn.zs.map (·.1)) (l.map (·.dst)) l (tis.map TI.ts) = true) ∧ Q .normal S') l S []) : WP Tryz.prog ds pn (.region id l.toArray b) Q S := by
  cases b with
  | false =>
    refine WP.region Tryz.tab ?_
    have e : (fun (tis : List TI) (S' : St) => (false = true → freshS S (tis.flatMap fun t => t.e.add)) ∧ (false = true → drawOkT (pn.zs.map (·.1)) (l.map (·.dst)) l (tis.map TI.ts) = true) ∧ Q .normal S') = fun _ S' => Q .normal S' := by funext tis S'; simp
    rwa [e] at h
  | true =>
    refine WP.draw Tryz.tab Tryz.mixed ?_
    have e : (fun (tis : List TI) (S' : St) => (true = true → freshS S (tis.flatMap fun t => t.e.add)) ∧ (true = true → drawOkT (pn.zs.map (·.1)) (l.map (·.dst)) l (tis.map TI.ts) = true) ∧ Q .normal S') = fun tis S' => freshS S (tis.flatMap fun t => t.e.add) ∧ drawOkT (pn.zs.map (·.1)) (l.map (·.dst)) l (tis.map TI.ts) = true ∧ Q .normal S' := by funext tis S'; simp
    rwa [e] at h
theorem cF {ds : Dn} {pn : Pn} {Q : Exit → St → Prop} {S : St} {o : Operand} {x y : Code} (he : S.ev o = .d (.v (.bool false))) (h : WP Tryz.prog ds pn y Q S) : WP Tryz.prog ds pn (.cond o x y) Q S := WP.cond (b := false) he (fun h => by cases h) (fun _ => h)
theorem cT {ds : Dn} {pn : Pn} {Q : Exit → St → Prop} {S : St} {o : Operand} {x y : Code} (he : S.ev o = .d (.v (.bool true))) (h : WP Tryz.prog ds pn x Q S) : WP Tryz.prog ds pn (.cond o x y) Q S := WP.cond (b := true) he (fun _ => h) (fun h => by cases h)
end Go.Proofs.YtadfkiigjnbdgaaGreatDoor
