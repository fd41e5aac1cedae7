/-
  The types of the seat, for the engine. Printed by seatgen.py.
-/
import Derived.Test.YtpamincphlfhlaaGreatDoorRows
import Derived.Test.YtpamincphlfhlaaGreatDoorK3
set_option linter.unusedVariables false
set_option linter.unusedSimpArgs false
set_option linter.unusedSectionVars false
namespace Go.Proofs.YtpamincphlfhlaaGreatDoor
open Go.Xe

def Tryz.tL : List (Option TE) := [
  none,
  some ⟨.func, 1, 8, [.nilFunc]⟩,
  some ⟨.int .i64, 1, 8, [.int .i64 0]⟩,
  some ⟨.int .i64, 1, 8, [.int .i64 0]⟩,
  some ⟨.bool, 1, 1, [.bool false]⟩,
  some ⟨.int .u8, 1, 1, [.int .u8 0]⟩,
  some ⟨.int .u8, 1, 1, [.int .u8 0]⟩,
  some ⟨.struct [(0, 2), (1, 3), (2, 4), (3, 6)], 4, 24, [.int .i64 0, .int .i64 0, .bool false, .int .u8 0]⟩,
  some ⟨.struct [(0, 2), (1, 3), (2, 4), (3, 6)], 4, 24, [.int .i64 0, .int .i64 0, .bool false, .int .u8 0]⟩,
  some ⟨.string, 1, 16, [.string { data := #[] }]⟩,
  some ⟨.string, 1, 16, [.string { data := #[] }]⟩,
  some ⟨.string, 1, 16, [.string { data := #[] }]⟩,
  some ⟨.int .u64, 1, 8, [.int .u64 0]⟩,
  some ⟨.struct [(0, 9), (1, 12)], 2, 24, [.string { data := #[] }, .int .u64 0]⟩,
  some ⟨.struct [(0, 9), (1, 12)], 2, 24, [.string { data := #[] }, .int .u64 0]⟩,
  some ⟨.ptr 321, 1, 8, [.pointer none]⟩,
  some ⟨.ptr 324, 1, 8, [.pointer none]⟩,
  some ⟨.ptr 333, 1, 8, [.pointer none]⟩,
  some ⟨.struct [(0, 17)], 1, 8, [.pointer none]⟩,
  some ⟨.struct [(0, 17)], 1, 8, [.pointer none]⟩,
  some ⟨.iface, 1, 16, [.nilIface]⟩,
  some ⟨.int .i32, 1, 4, [.int .i32 0]⟩,
  some ⟨.slice 90, 1, 24, [.slice none 0 0]⟩,
  some ⟨.slice 68, 1, 24, [.slice none 0 0]⟩,
  some ⟨.struct [(0, 23)], 1, 24, [.slice none 0 0]⟩,
  some ⟨.struct [(0, 23)], 1, 24, [.slice none 0 0]⟩,
  some ⟨.func, 1, 8, [.nilFunc]⟩,
  some ⟨.func, 1, 8, [.nilFunc]⟩,
  some ⟨.func, 1, 8, [.nilFunc]⟩,
  some ⟨.int .i64, 1, 8, [.int .i64 0]⟩,
  none,
  some ⟨.func, 1, 8, [.nilFunc]⟩,
  some ⟨.slice 39, 1, 24, [.slice none 0 0]⟩,
  some ⟨.func, 1, 8, [.nilFunc]⟩,
  some ⟨.func, 1, 8, [.nilFunc]⟩,
  some ⟨.func, 1, 8, [.nilFunc]⟩,
  some ⟨.slice 3, 1, 24, [.slice none 0 0]⟩,
  some ⟨.func, 1, 8, [.nilFunc]⟩,
  some ⟨.struct [(0, 3), (1, 3)], 2, 16, [.int .i64 0, .int .i64 0]⟩,
  some ⟨.struct [(0, 3), (1, 3)], 2, 16, [.int .i64 0, .int .i64 0]⟩,
  some ⟨.struct [(0, 3), (1, 3), (2, 3), (3, 3), (4, 3), (5, 3), (6, 3), (7, 3)], 8, 64, [.int .i64 0, .int .i64 0, .int .i64 0, .int .i64 0, .int .i64 0, .int .i64 0, .int .i64 0, .int .i64 0]⟩,
  some ⟨.struct [(0, 3), (1, 3), (2, 3), (3, 3), (4, 3), (5, 3), (6, 3), (7, 3)], 8, 64, [.int .i64 0, .int .i64 0, .int .i64 0, .int .i64 0, .int .i64 0, .int .i64 0, .int .i64 0, .int .i64 0]⟩,
  some ⟨.struct [(0, 3), (1, 3), (2, 3), (3, 3)], 4, 32, [.int .i64 0, .int .i64 0, .int .i64 0, .int .i64 0]⟩,
  some ⟨.struct [(0, 3), (1, 3), (2, 3), (3, 3)], 4, 32, [.int .i64 0, .int .i64 0, .int .i64 0, .int .i64 0]⟩,
  some ⟨.struct [(0, 3), (1, 3), (2, 3), (3, 3), (4, 3)], 5, 40, [.int .i64 0, .int .i64 0, .int .i64 0, .int .i64 0, .int .i64 0]⟩,
  some ⟨.struct [(0, 3), (1, 3), (2, 3), (3, 3), (4, 3)], 5, 40, [.int .i64 0, .int .i64 0, .int .i64 0, .int .i64 0, .int .i64 0]⟩,
  some ⟨.struct [(0, 3), (1, 3), (2, 3), (3, 3), (4, 3), (5, 3), (6, 3), (7, 3)], 8, 64, [.int .i64 0, .int .i64 0, .int .i64 0, .int .i64 0, .int .i64 0, .int .i64 0, .int .i64 0, .int .i64 0]⟩,
  some ⟨.struct [(0, 3), (1, 3), (2, 3), (3, 3), (4, 3), (5, 3), (6, 3), (7, 3)], 8, 64, [.int .i64 0, .int .i64 0, .int .i64 0, .int .i64 0, .int .i64 0, .int .i64 0, .int .i64 0, .int .i64 0]⟩,
  some ⟨.struct [(0, 3), (1, 3), (2, 3), (3, 3)], 4, 32, [.int .i64 0, .int .i64 0, .int .i64 0, .int .i64 0]⟩,
  some ⟨.struct [(0, 3), (1, 3), (2, 3), (3, 3)], 4, 32, [.int .i64 0, .int .i64 0, .int .i64 0, .int .i64 0]⟩,
  some ⟨.struct [(0, 3), (1, 3), (2, 3), (3, 3)], 4, 32, [.int .i64 0, .int .i64 0, .int .i64 0, .int .i64 0]⟩,
  some ⟨.struct [(0, 3), (1, 3), (2, 3), (3, 3)], 4, 32, [.int .i64 0, .int .i64 0, .int .i64 0, .int .i64 0]⟩,
  some ⟨.struct [(0, 3), (1, 3)], 2, 16, [.int .i64 0, .int .i64 0]⟩,
  some ⟨.struct [(0, 3), (1, 3)], 2, 16, [.int .i64 0, .int .i64 0]⟩,
  some ⟨.struct [(0, 3), (1, 3), (2, 3), (3, 3)], 4, 32, [.int .i64 0, .int .i64 0, .int .i64 0, .int .i64 0]⟩,
  some ⟨.struct [(0, 3), (1, 3), (2, 3), (3, 3)], 4, 32, [.int .i64 0, .int .i64 0, .int .i64 0, .int .i64 0]⟩,
  some ⟨.struct [(0, 3), (1, 3), (2, 3), (3, 3)], 4, 32, [.int .i64 0, .int .i64 0, .int .i64 0, .int .i64 0]⟩,
  some ⟨.struct [(0, 3), (1, 3), (2, 3), (3, 3)], 4, 32, [.int .i64 0, .int .i64 0, .int .i64 0, .int .i64 0]⟩,
  some ⟨.struct [(0, 3), (1, 3), (2, 3), (3, 3), (4, 3), (5, 3)], 6, 48, [.int .i64 0, .int .i64 0, .int .i64 0, .int .i64 0, .int .i64 0, .int .i64 0]⟩,
  some ⟨.struct [(0, 3), (1, 3), (2, 3), (3, 3), (4, 3), (5, 3)], 6, 48, [.int .i64 0, .int .i64 0, .int .i64 0, .int .i64 0, .int .i64 0, .int .i64 0]⟩,
  some ⟨.struct [(0, 3), (1, 4)], 2, 16, [.int .i64 0, .bool false]⟩,
  some ⟨.struct [(0, 3), (1, 4)], 2, 16, [.int .i64 0, .bool false]⟩,
  some ⟨.struct [(0, 3), (1, 3), (2, 3), (3, 3), (4, 41), (12, 43), (16, 45), (21, 47), (29, 49), (33, 51), (37, 53), (39, 55), (43, 57), (47, 59), (53, 61), (55, 39)], 57, 456, [.int .i64 0, .int .i64 0, .int .i64 0, .int .i64 0, .int .i64 0, .int .i64 0, .int .i64 0, .int .i64 0, .int .i64 0, .int .i64 0, .int .i64 0, .int .i64 0, .int .i64 0, .int .i64 0, .int .i64 0, .int .i64 0, .int .i64 0, .int .i64 0, .int .i64 0, .int .i64 0, .int .i64 0, .int .i64 0, .int .i64 0, .int .i64 0, .int .i64 0, .int .i64 0, .int .i64 0, .int .i64 0, .int .i64 0, .int .i64 0, .int .i64 0, .int .i64 0, .int .i64 0, .int .i64 0, .int .i64 0, .int .i64 0, .int .i64 0, .int .i64 0, .int .i64 0, .int .i64 0, .int .i64 0, .int .i64 0, .int .i64 0, .int .i64 0, .int .i64 0, .int .i64 0, .int .i64 0, .int .i64 0, .int .i64 0, .int .i64 0, .int .i64 0, .int .i64 0, .int .i64 0, .int .i64 0, .bool false, .int .i64 0, .int .i64 0]⟩,
  some ⟨.struct [(0, 3), (1, 3), (2, 3), (3, 3), (4, 41), (12, 43), (16, 45), (21, 47), (29, 49), (33, 51), (37, 53), (39, 55), (43, 57), (47, 59), (53, 61), (55, 39)], 57, 456, [.int .i64 0, .int .i64 0, .int .i64 0, .int .i64 0, .int .i64 0, .int .i64 0, .int .i64 0, .int .i64 0, .int .i64 0, .int .i64 0, .int .i64 0, .int .i64 0, .int .i64 0, .int .i64 0, .int .i64 0, .int .i64 0, .int .i64 0, .int .i64 0, .int .i64 0, .int .i64 0, .int .i64 0, .int .i64 0, .int .i64 0, .int .i64 0, .int .i64 0, .int .i64 0, .int .i64 0, .int .i64 0, .int .i64 0, .int .i64 0, .int .i64 0, .int .i64 0, .int .i64 0, .int .i64 0, .int .i64 0, .int .i64 0, .int .i64 0, .int .i64 0, .int .i64 0, .int .i64 0, .int .i64 0, .int .i64 0, .int .i64 0, .int .i64 0, .int .i64 0, .int .i64 0, .int .i64 0, .int .i64 0, .int .i64 0, .int .i64 0, .int .i64 0, .int .i64 0, .int .i64 0, .int .i64 0, .bool false, .int .i64 0, .int .i64 0]⟩,
  some ⟨.slice 88, 1, 24, [.slice none 0 0]⟩,
  some ⟨.struct [(0, 3), (1, 64), (2, 64), (3, 64)], 4, 80, [.int .i64 0, .slice none 0 0, .slice none 0 0, .slice none 0 0]⟩,
  some ⟨.struct [(0, 3), (1, 64), (2, 64), (3, 64)], 4, 80, [.int .i64 0, .slice none 0 0, .slice none 0 0, .slice none 0 0]⟩,
  some ⟨.struct [(0, 63), (57, 66)], 61, 536, [.int .i64 0, .int .i64 0, .int .i64 0, .int .i64 0, .int .i64 0, .int .i64 0, .int .i64 0, .int .i64 0, .int .i64 0, .int .i64 0, .int .i64 0, .int .i64 0, .int .i64 0, .int .i64 0, .int .i64 0, .int .i64 0, .int .i64 0, .int .i64 0, .int .i64 0, .int .i64 0, .int .i64 0, .int .i64 0, .int .i64 0, .int .i64 0, .int .i64 0, .int .i64 0, .int .i64 0, .int .i64 0, .int .i64 0, .int .i64 0, .int .i64 0, .int .i64 0, .int .i64 0, .int .i64 0, .int .i64 0, .int .i64 0, .int .i64 0, .int .i64 0, .int .i64 0, .int .i64 0, .int .i64 0, .int .i64 0, .int .i64 0, .int .i64 0, .int .i64 0, .int .i64 0, .int .i64 0, .int .i64 0, .int .i64 0, .int .i64 0, .int .i64 0, .int .i64 0, .int .i64 0, .int .i64 0, .bool false, .int .i64 0, .int .i64 0, .int .i64 0, .slice none 0 0, .slice none 0 0, .slice none 0 0]⟩,
  some ⟨.struct [(0, 63), (57, 66)], 61, 536, [.int .i64 0, .int .i64 0, .int .i64 0, .int .i64 0, .int .i64 0, .int .i64 0, .int .i64 0, .int .i64 0, .int .i64 0, .int .i64 0, .int .i64 0, .int .i64 0, .int .i64 0, .int .i64 0, .int .i64 0, .int .i64 0, .int .i64 0, .int .i64 0, .int .i64 0, .int .i64 0, .int .i64 0, .int .i64 0, .int .i64 0, .int .i64 0, .int .i64 0, .int .i64 0, .int .i64 0, .int .i64 0, .int .i64 0, .int .i64 0, .int .i64 0, .int .i64 0, .int .i64 0, .int .i64 0, .int .i64 0, .int .i64 0, .int .i64 0, .int .i64 0, .int .i64 0, .int .i64 0, .int .i64 0, .int .i64 0, .int .i64 0, .int .i64 0, .int .i64 0, .int .i64 0, .int .i64 0, .int .i64 0, .int .i64 0, .int .i64 0, .int .i64 0, .int .i64 0, .int .i64 0, .int .i64 0, .bool false, .int .i64 0, .int .i64 0, .int .i64 0, .slice none 0 0, .slice none 0 0, .slice none 0 0]⟩,
  some ⟨.struct [(0, 68), (61, 68)], 122, 1072, [.int .i64 0, .int .i64 0, .int .i64 0, .int .i64 0, .int .i64 0, .int .i64 0, .int .i64 0, .int .i64 0, .int .i64 0, .int .i64 0, .int .i64 0, .int .i64 0, .int .i64 0, .int .i64 0, .int .i64 0, .int .i64 0, .int .i64 0, .int .i64 0, .int .i64 0, .int .i64 0, .int .i64 0, .int .i64 0, .int .i64 0, .int .i64 0, .int .i64 0, .int .i64 0, .int .i64 0, .int .i64 0, .int .i64 0, .int .i64 0, .int .i64 0, .int .i64 0, .int .i64 0, .int .i64 0, .int .i64 0, .int .i64 0, .int .i64 0, .int .i64 0, .int .i64 0, .int .i64 0, .int .i64 0, .int .i64 0, .int .i64 0, .int .i64 0, .int .i64 0, .int .i64 0, .int .i64 0, .int .i64 0, .int .i64 0, .int .i64 0, .int .i64 0, .int .i64 0, .int .i64 0, .int .i64 0, .bool false, .int .i64 0, .int .i64 0, .int .i64 0, .slice none 0 0, .slice none 0 0, .slice none 0 0, .int .i64 0, .int .i64 0, .int .i64 0, .int .i64 0, .int .i64 0, .int .i64 0, .int .i64 0, .int .i64 0, .int .i64 0, .int .i64 0, .int .i64 0, .int .i64 0, .int .i64 0, .int .i64 0, .int .i64 0, .int .i64 0, .int .i64 0, .int .i64 0, .int .i64 0, .int .i64 0, .int .i64 0, .int .i64 0, .int .i64 0, .int .i64 0, .int .i64 0, .int .i64 0, .int .i64 0, .int .i64 0, .int .i64 0, .int .i64 0, .int .i64 0, .int .i64 0, .int .i64 0, .int .i64 0, .int .i64 0, .int .i64 0, .int .i64 0, .int .i64 0, .int .i64 0, .int .i64 0, .int .i64 0, .int .i64 0, .int .i64 0, .int .i64 0, .int .i64 0, .int .i64 0, .int .i64 0, .int .i64 0, .int .i64 0, .int .i64 0, .int .i64 0, .int .i64 0, .int .i64 0, .int .i64 0, .bool false, .int .i64 0, .int .i64 0, .int .i64 0, .slice none 0 0, .slice none 0 0, .slice none 0 0]⟩,
  some ⟨.struct [(0, 68), (61, 68)], 122, 1072, [.int .i64 0, .int .i64 0, .int .i64 0, .int .i64 0, .int .i64 0, .int .i64 0, .int .i64 0, .int .i64 0, .int .i64 0, .int .i64 0, .int .i64 0, .int .i64 0, .int .i64 0, .int .i64 0, .int .i64 0, .int .i64 0, .int .i64 0, .int .i64 0, .int .i64 0, .int .i64 0, .int .i64 0, .int .i64 0, .int .i64 0, .int .i64 0, .int .i64 0, .int .i64 0, .int .i64 0, .int .i64 0, .int .i64 0, .int .i64 0, .int .i64 0, .int .i64 0, .int .i64 0, .int .i64 0, .int .i64 0, .int .i64 0, .int .i64 0, .int .i64 0, .int .i64 0, .int .i64 0, .int .i64 0, .int .i64 0, .int .i64 0, .int .i64 0, .int .i64 0, .int .i64 0, .int .i64 0, .int .i64 0, .int .i64 0, .int .i64 0, .int .i64 0, .int .i64 0, .int .i64 0, .int .i64 0, .bool false, .int .i64 0, .int .i64 0, .int .i64 0, .slice none 0 0, .slice none 0 0, .slice none 0 0, .int .i64 0, .int .i64 0, .int .i64 0, .int .i64 0, .int .i64 0, .int .i64 0, .int .i64 0, .int .i64 0, .int .i64 0, .int .i64 0, .int .i64 0, .int .i64 0, .int .i64 0, .int .i64 0, .int .i64 0, .int .i64 0, .int .i64 0, .int .i64 0, .int .i64 0, .int .i64 0, .int .i64 0, .int .i64 0, .int .i64 0, .int .i64 0, .int .i64 0, .int .i64 0, .int .i64 0, .int .i64 0, .int .i64 0, .int .i64 0, .int .i64 0, .int .i64 0, .int .i64 0, .int .i64 0, .int .i64 0, .int .i64 0, .int .i64 0, .int .i64 0, .int .i64 0, .int .i64 0, .int .i64 0, .int .i64 0, .int .i64 0, .int .i64 0, .int .i64 0, .int .i64 0, .int .i64 0, .int .i64 0, .int .i64 0, .int .i64 0, .int .i64 0, .int .i64 0, .int .i64 0, .int .i64 0, .bool false, .int .i64 0, .int .i64 0, .int .i64 0, .slice none 0 0, .slice none 0 0, .slice none 0 0]⟩,
  none,
  some ⟨.func, 1, 8, [.nilFunc]⟩,
  some ⟨.func, 1, 8, [.nilFunc]⟩,
  some ⟨.func, 1, 8, [.nilFunc]⟩,
  some ⟨.func, 1, 8, [.nilFunc]⟩,
  some ⟨.func, 1, 8, [.nilFunc]⟩,
  some ⟨.func, 1, 8, [.nilFunc]⟩,
  some ⟨.func, 1, 8, [.nilFunc]⟩,
  some ⟨.slice 70, 1, 24, [.slice none 0 0]⟩,
  some ⟨.func, 1, 8, [.nilFunc]⟩,
  some ⟨.slice 63, 1, 24, [.slice none 0 0]⟩,
  some ⟨.func, 1, 8, [.nilFunc]⟩,
  some ⟨.func, 1, 8, [.nilFunc]⟩,
  some ⟨.func, 1, 8, [.nilFunc]⟩,
  some ⟨.func, 1, 8, [.nilFunc]⟩,
  some ⟨.func, 1, 8, [.nilFunc]⟩,
  some ⟨.array 32 5, 32, 32, [.int .u8 0, .int .u8 0, .int .u8 0, .int .u8 0, .int .u8 0, .int .u8 0, .int .u8 0, .int .u8 0, .int .u8 0, .int .u8 0, .int .u8 0, .int .u8 0, .int .u8 0, .int .u8 0, .int .u8 0, .int .u8 0, .int .u8 0, .int .u8 0, .int .u8 0, .int .u8 0, .int .u8 0, .int .u8 0, .int .u8 0, .int .u8 0, .int .u8 0, .int .u8 0, .int .u8 0, .int .u8 0, .int .u8 0, .int .u8 0, .int .u8 0, .int .u8 0]⟩,
  some ⟨.array 32 5, 32, 32, [.int .u8 0, .int .u8 0, .int .u8 0, .int .u8 0, .int .u8 0, .int .u8 0, .int .u8 0, .int .u8 0, .int .u8 0, .int .u8 0, .int .u8 0, .int .u8 0, .int .u8 0, .int .u8 0, .int .u8 0, .int .u8 0, .int .u8 0, .int .u8 0, .int .u8 0, .int .u8 0, .int .u8 0, .int .u8 0, .int .u8 0, .int .u8 0, .int .u8 0, .int .u8 0, .int .u8 0, .int .u8 0, .int .u8 0, .int .u8 0, .int .u8 0, .int .u8 0]⟩,
  some ⟨.struct [(0, 88), (32, 3)], 33, 40, [.int .u8 0, .int .u8 0, .int .u8 0, .int .u8 0, .int .u8 0, .int .u8 0, .int .u8 0, .int .u8 0, .int .u8 0, .int .u8 0, .int .u8 0, .int .u8 0, .int .u8 0, .int .u8 0, .int .u8 0, .int .u8 0, .int .u8 0, .int .u8 0, .int .u8 0, .int .u8 0, .int .u8 0, .int .u8 0, .int .u8 0, .int .u8 0, .int .u8 0, .int .u8 0, .int .u8 0, .int .u8 0, .int .u8 0, .int .u8 0, .int .u8 0, .int .u8 0, .int .i64 0]⟩,
  some ⟨.struct [(0, 88), (32, 3)], 33, 40, [.int .u8 0, .int .u8 0, .int .u8 0, .int .u8 0, .int .u8 0, .int .u8 0, .int .u8 0, .int .u8 0, .int .u8 0, .int .u8 0, .int .u8 0, .int .u8 0, .int .u8 0, .int .u8 0, .int .u8 0, .int .u8 0, .int .u8 0, .int .u8 0, .int .u8 0, .int .u8 0, .int .u8 0, .int .u8 0, .int .u8 0, .int .u8 0, .int .u8 0, .int .u8 0, .int .u8 0, .int .u8 0, .int .u8 0, .int .u8 0, .int .u8 0, .int .u8 0, .int .i64 0]⟩,
  some ⟨.func, 1, 8, [.nilFunc]⟩,
  some ⟨.slice 25, 1, 24, [.slice none 0 0]⟩,
  some ⟨.func, 1, 8, [.nilFunc]⟩,
  some ⟨.func, 1, 8, [.nilFunc]⟩,
  some ⟨.map 63 4, 1, 8, [.map none]⟩,
  some ⟨.func, 1, 8, [.nilFunc]⟩,
  some ⟨.func, 1, 8, [.nilFunc]⟩,
  some ⟨.map 39 4, 1, 8, [.map none]⟩,
  some ⟨.func, 1, 8, [.nilFunc]⟩,
  some ⟨.func, 1, 8, [.nilFunc]⟩,
  some ⟨.func, 1, 8, [.nilFunc]⟩,
  some ⟨.func, 1, 8, [.nilFunc]⟩,
  some ⟨.func, 1, 8, [.nilFunc]⟩,
  some ⟨.map 3 3, 1, 8, [.map none]⟩,
  some ⟨.func, 1, 8, [.nilFunc]⟩,
  some ⟨.func, 1, 8, [.nilFunc]⟩,
  some ⟨.func, 1, 8, [.nilFunc]⟩,
  some ⟨.func, 1, 8, [.nilFunc]⟩,
  some ⟨.func, 1, 8, [.nilFunc]⟩,
  some ⟨.func, 1, 8, [.nilFunc]⟩,
  some ⟨.func, 1, 8, [.nilFunc]⟩,
  some ⟨.func, 1, 8, [.nilFunc]⟩,
  some ⟨.func, 1, 8, [.nilFunc]⟩,
  some ⟨.func, 1, 8, [.nilFunc]⟩,
  some ⟨.func, 1, 8, [.nilFunc]⟩,
  some ⟨.func, 1, 8, [.nilFunc]⟩,
  some ⟨.func, 1, 8, [.nilFunc]⟩,
  some ⟨.func, 1, 8, [.nilFunc]⟩,
  some ⟨.struct [(0, 3), (1, 3)], 2, 16, [.int .i64 0, .int .i64 0]⟩,
  some ⟨.struct [(0, 3), (1, 3)], 2, 16, [.int .i64 0, .int .i64 0]⟩,
  some ⟨.func, 1, 8, [.nilFunc]⟩,
  some ⟨.func, 1, 8, [.nilFunc]⟩,
  some ⟨.func, 1, 8, [.nilFunc]⟩,
  some ⟨.func, 1, 8, [.nilFunc]⟩,
  some ⟨.slice 23, 1, 24, [.slice none 0 0]⟩,
  some ⟨.func, 1, 8, [.nilFunc]⟩,
  some ⟨.func, 1, 8, [.nilFunc]⟩,
  some ⟨.func, 1, 8, [.nilFunc]⟩,
  some ⟨.func, 1, 8, [.nilFunc]⟩,
  some ⟨.func, 1, 8, [.nilFunc]⟩,
  some ⟨.func, 1, 8, [.nilFunc]⟩,
  some ⟨.func, 1, 8, [.nilFunc]⟩,
  some ⟨.func, 1, 8, [.nilFunc]⟩,
  some ⟨.func, 1, 8, [.nilFunc]⟩,
  some ⟨.map 120 23, 1, 8, [.map none]⟩,
  some ⟨.map 120 23, 1, 8, [.map none]⟩,
  some ⟨.func, 1, 8, [.nilFunc]⟩,
  some ⟨.func, 1, 8, [.nilFunc]⟩,
  some ⟨.func, 1, 8, [.nilFunc]⟩,
  some ⟨.func, 1, 8, [.nilFunc]⟩,
  some ⟨.func, 1, 8, [.nilFunc]⟩,
  some ⟨.func, 1, 8, [.nilFunc]⟩,
  some ⟨.func, 1, 8, [.nilFunc]⟩,
  some ⟨.func, 1, 8, [.nilFunc]⟩,
  some ⟨.func, 1, 8, [.nilFunc]⟩,
  some ⟨.func, 1, 8, [.nilFunc]⟩,
  some ⟨.func, 1, 8, [.nilFunc]⟩,
  some ⟨.func, 1, 8, [.nilFunc]⟩,
  some ⟨.func, 1, 8, [.nilFunc]⟩,
  some ⟨.func, 1, 8, [.nilFunc]⟩,
  some ⟨.func, 1, 8, [.nilFunc]⟩,
  some ⟨.func, 1, 8, [.nilFunc]⟩,
  some ⟨.func, 1, 8, [.nilFunc]⟩,
  some ⟨.slice 5, 1, 24, [.slice none 0 0]⟩,
  some ⟨.func, 1, 8, [.nilFunc]⟩,
  none,
  some ⟨.func, 1, 8, [.nilFunc]⟩,
  some ⟨.func, 1, 8, [.nilFunc]⟩,
  some ⟨.func, 1, 8, [.nilFunc]⟩,
  some ⟨.func, 1, 8, [.nilFunc]⟩,
  none,
  some ⟨.func, 1, 8, [.nilFunc]⟩,
  some ⟨.func, 1, 8, [.nilFunc]⟩,
  some ⟨.func, 1, 8, [.nilFunc]⟩,
  some ⟨.func, 1, 8, [.nilFunc]⟩,
  some ⟨.func, 1, 8, [.nilFunc]⟩,
  some ⟨.func, 1, 8, [.nilFunc]⟩,
  some ⟨.func, 1, 8, [.nilFunc]⟩,
  none,
  some ⟨.func, 1, 8, [.nilFunc]⟩,
  some ⟨.func, 1, 8, [.nilFunc]⟩,
  some ⟨.func, 1, 8, [.nilFunc]⟩,
  some ⟨.slice 120, 1, 24, [.slice none 0 0]⟩,
  some ⟨.func, 1, 8, [.nilFunc]⟩,
  some ⟨.func, 1, 8, [.nilFunc]⟩,
  some ⟨.func, 1, 8, [.nilFunc]⟩,
  some ⟨.func, 1, 8, [.nilFunc]⟩,
  some ⟨.func, 1, 8, [.nilFunc]⟩,
  some ⟨.func, 1, 8, [.nilFunc]⟩,
  some ⟨.int .u64, 1, 8, [.int .u64 0]⟩,
  some ⟨.func, 1, 8, [.nilFunc]⟩,
  some ⟨.func, 1, 8, [.nilFunc]⟩,
  some ⟨.func, 1, 8, [.nilFunc]⟩,
  some ⟨.func, 1, 8, [.nilFunc]⟩,
  some ⟨.func, 1, 8, [.nilFunc]⟩,
  some ⟨.array 64 4, 64, 64, [.bool false, .bool false, .bool false, .bool false, .bool false, .bool false, .bool false, .bool false, .bool false, .bool false, .bool false, .bool false, .bool false, .bool false, .bool false, .bool false, .bool false, .bool false, .bool false, .bool false, .bool false, .bool false, .bool false, .bool false, .bool false, .bool false, .bool false, .bool false, .bool false, .bool false, .bool false, .bool false, .bool false, .bool false, .bool false, .bool false, .bool false, .bool false, .bool false, .bool false, .bool false, .bool false, .bool false, .bool false, .bool false, .bool false, .bool false, .bool false, .bool false, .bool false, .bool false, .bool false, .bool false, .bool false, .bool false, .bool false, .bool false, .bool false, .bool false, .bool false, .bool false, .bool false, .bool false, .bool false]⟩,
  some ⟨.array 64 4, 64, 64, [.bool false, .bool false, .bool false, .bool false, .bool false, .bool false, .bool false, .bool false, .bool false, .bool false, .bool false, .bool false, .bool false, .bool false, .bool false, .bool false, .bool false, .bool false, .bool false, .bool false, .bool false, .bool false, .bool false, .bool false, .bool false, .bool false, .bool false, .bool false, .bool false, .bool false, .bool false, .bool false, .bool false, .bool false, .bool false, .bool false, .bool false, .bool false, .bool false, .bool false, .bool false, .bool false, .bool false, .bool false, .bool false, .bool false, .bool false, .bool false, .bool false, .bool false, .bool false, .bool false, .bool false, .bool false, .bool false, .bool false, .bool false, .bool false, .bool false, .bool false, .bool false, .bool false, .bool false, .bool false]⟩,
  some ⟨.func, 1, 8, [.nilFunc]⟩,
  some ⟨.func, 1, 8, [.nilFunc]⟩,
  some ⟨.func, 1, 8, [.nilFunc]⟩,
  none,
  some ⟨.func, 1, 8, [.nilFunc]⟩,
  some ⟨.func, 1, 8, [.nilFunc]⟩,
  some ⟨.func, 1, 8, [.nilFunc]⟩,
  some ⟨.slice 197, 1, 24, [.slice none 0 0]⟩,
  some ⟨.struct [(0, 3), (1, 3), (2, 9), (3, 195)], 4, 56, [.int .i64 0, .int .i64 0, .string { data := #[] }, .slice none 0 0]⟩,
  some ⟨.struct [(0, 3), (1, 3), (2, 9), (3, 195)], 4, 56, [.int .i64 0, .int .i64 0, .string { data := #[] }, .slice none 0 0]⟩,
  some ⟨.func, 1, 8, [.nilFunc]⟩,
  some ⟨.func, 1, 8, [.nilFunc]⟩,
  some ⟨.slice 212, 1, 24, [.slice none 0 0]⟩,
  some ⟨.struct [(0, 200), (1, 26)], 2, 32, [.slice none 0 0, .nilFunc]⟩,
  some ⟨.struct [(0, 200), (1, 26)], 2, 32, [.slice none 0 0, .nilFunc]⟩,
  none,
  some ⟨.func, 1, 8, [.nilFunc]⟩,
  some ⟨.ptr 63, 1, 8, [.pointer none]⟩,
  some ⟨.ptr 3, 1, 8, [.pointer none]⟩,
  some ⟨.func, 1, 8, [.nilFunc]⟩,
  some ⟨.func, 1, 8, [.nilFunc]⟩,
  some ⟨.struct [(0, 3), (1, 3)], 2, 16, [.int .i64 0, .int .i64 0]⟩,
  some ⟨.struct [(0, 3), (1, 3)], 2, 16, [.int .i64 0, .int .i64 0]⟩,
  some ⟨.struct [(0, 206), (1, 210)], 3, 24, [.pointer none, .int .i64 0, .int .i64 0]⟩,
  some ⟨.struct [(0, 206), (1, 210)], 3, 24, [.pointer none, .int .i64 0, .int .i64 0]⟩,
  some ⟨.func, 1, 8, [.nilFunc]⟩,
  some ⟨.func, 1, 8, [.nilFunc]⟩,
  some ⟨.func, 1, 8, [.nilFunc]⟩,
  some ⟨.func, 1, 8, [.nilFunc]⟩,
  some ⟨.func, 1, 8, [.nilFunc]⟩,
  some ⟨.func, 1, 8, [.nilFunc]⟩,
  some ⟨.func, 1, 8, [.nilFunc]⟩,
  some ⟨.int .i64, 1, 8, [.int .i64 0]⟩,
  none,
  some ⟨.func, 1, 8, [.nilFunc]⟩,
  some ⟨.func, 1, 8, [.nilFunc]⟩,
  some ⟨.func, 1, 8, [.nilFunc]⟩,
  some ⟨.func, 1, 8, [.nilFunc]⟩,
  some ⟨.func, 1, 8, [.nilFunc]⟩,
  some ⟨.func, 1, 8, [.nilFunc]⟩,
  some ⟨.int .u32, 1, 4, [.int .u32 0]⟩,
  some ⟨.func, 1, 8, [.nilFunc]⟩,
  some ⟨.int .u64, 1, 8, [.int .u64 0]⟩,
  some ⟨.func, 1, 8, [.nilFunc]⟩,
  some ⟨.func, 1, 8, [.nilFunc]⟩,
  some ⟨.slice 4, 1, 24, [.slice none 0 0]⟩,
  some ⟨.func, 1, 8, [.nilFunc]⟩,
  some ⟨.func, 1, 8, [.nilFunc]⟩,
  some ⟨.func, 1, 8, [.nilFunc]⟩,
  some ⟨.func, 1, 8, [.nilFunc]⟩,
  some ⟨.func, 1, 8, [.nilFunc]⟩,
  some ⟨.struct [(0, 238)], 1, 8, [.nilFunc]⟩,
  some ⟨.struct [(0, 238)], 1, 8, [.nilFunc]⟩,
  some ⟨.ptr 283, 1, 8, [.pointer none]⟩,
  some ⟨.func, 1, 8, [.nilFunc]⟩,
  some ⟨.func, 1, 8, [.nilFunc]⟩,
  some ⟨.func, 1, 8, [.nilFunc]⟩,
  some ⟨.ptr 41, 1, 8, [.pointer none]⟩,
  some ⟨.ptr 43, 1, 8, [.pointer none]⟩,
  some ⟨.ptr 45, 1, 8, [.pointer none]⟩,
  some ⟨.ptr 47, 1, 8, [.pointer none]⟩,
  some ⟨.ptr 49, 1, 8, [.pointer none]⟩,
  some ⟨.ptr 51, 1, 8, [.pointer none]⟩,
  some ⟨.ptr 53, 1, 8, [.pointer none]⟩,
  some ⟨.ptr 55, 1, 8, [.pointer none]⟩,
  some ⟨.ptr 57, 1, 8, [.pointer none]⟩,
  some ⟨.ptr 59, 1, 8, [.pointer none]⟩,
  some ⟨.func, 1, 8, [.nilFunc]⟩,
  some ⟨.func, 1, 8, [.nilFunc]⟩,
  some ⟨.func, 1, 8, [.nilFunc]⟩,
  some ⟨.func, 1, 8, [.nilFunc]⟩,
  some ⟨.func, 1, 8, [.nilFunc]⟩,
  some ⟨.func, 1, 8, [.nilFunc]⟩,
  some ⟨.func, 1, 8, [.nilFunc]⟩,
  some ⟨.func, 1, 8, [.nilFunc]⟩,
  some ⟨.func, 1, 8, [.nilFunc]⟩,
  some ⟨.func, 1, 8, [.nilFunc]⟩,
  some ⟨.func, 1, 8, [.nilFunc]⟩,
  some ⟨.func, 1, 8, [.nilFunc]⟩,
  some ⟨.int .u64, 1, 8, [.int .u64 0]⟩,
  some ⟨.func, 1, 8, [.nilFunc]⟩,
  some ⟨.func, 1, 8, [.nilFunc]⟩,
  some ⟨.func, 1, 8, [.nilFunc]⟩,
  some ⟨.func, 1, 8, [.nilFunc]⟩,
  some ⟨.func, 1, 8, [.nilFunc]⟩,
  some ⟨.func, 1, 8, [.nilFunc]⟩,
  some ⟨.func, 1, 8, [.nilFunc]⟩,
  some ⟨.func, 1, 8, [.nilFunc]⟩,
  some ⟨.slice 154, 1, 24, [.slice none 0 0]⟩,
  some ⟨.func, 1, 8, [.nilFunc]⟩,
  some ⟨.array 8 228, 8, 32, [.int .u32 0, .int .u32 0, .int .u32 0, .int .u32 0, .int .u32 0, .int .u32 0, .int .u32 0, .int .u32 0]⟩,
  some ⟨.func, 1, 8, [.nilFunc]⟩,
  some ⟨.ptr 278, 1, 8, [.pointer none]⟩,
  some ⟨.func, 1, 8, [.nilFunc]⟩,
  some ⟨.array 4 240, 4, 32, [.nilFunc, .nilFunc, .nilFunc, .nilFunc]⟩,
  some ⟨.array 4 240, 4, 32, [.nilFunc, .nilFunc, .nilFunc, .nilFunc]⟩,
  some ⟨.func, 1, 8, [.nilFunc]⟩,
  some ⟨.func, 1, 8, [.nilFunc]⟩,
  some ⟨.func, 1, 8, [.nilFunc]⟩,
  some ⟨.func, 1, 8, [.nilFunc]⟩,
  some ⟨.func, 1, 8, [.nilFunc]⟩,
  some ⟨.func, 1, 8, [.nilFunc]⟩,
  some ⟨.func, 1, 8, [.nilFunc]⟩,
  some ⟨.ptr 267, 1, 8, [.pointer none]⟩,
  none,
  some ⟨.func, 1, 8, [.nilFunc]⟩,
  some ⟨.func, 1, 8, [.nilFunc]⟩,
  some ⟨.func, 1, 8, [.nilFunc]⟩,
  some ⟨.func, 1, 8, [.nilFunc]⟩,
  some ⟨.array 16 228, 16, 64, [.int .u32 0, .int .u32 0, .int .u32 0, .int .u32 0, .int .u32 0, .int .u32 0, .int .u32 0, .int .u32 0, .int .u32 0, .int .u32 0, .int .u32 0, .int .u32 0, .int .u32 0, .int .u32 0, .int .u32 0, .int .u32 0]⟩,
  some ⟨.array 16 228, 16, 64, [.int .u32 0, .int .u32 0, .int .u32 0, .int .u32 0, .int .u32 0, .int .u32 0, .int .u32 0, .int .u32 0, .int .u32 0, .int .u32 0, .int .u32 0, .int .u32 0, .int .u32 0, .int .u32 0, .int .u32 0, .int .u32 0]⟩,
  some ⟨.slice 228, 1, 24, [.slice none 0 0]⟩,
  some ⟨.func, 1, 8, [.nilFunc]⟩,
  some ⟨.array 16 5, 16, 16, [.int .u8 0, .int .u8 0, .int .u8 0, .int .u8 0, .int .u8 0, .int .u8 0, .int .u8 0, .int .u8 0, .int .u8 0, .int .u8 0, .int .u8 0, .int .u8 0, .int .u8 0, .int .u8 0, .int .u8 0, .int .u8 0]⟩,
  some ⟨.array 10 301, 160, 160, [.int .u8 0, .int .u8 0, .int .u8 0, .int .u8 0, .int .u8 0, .int .u8 0, .int .u8 0, .int .u8 0, .int .u8 0, .int .u8 0, .int .u8 0, .int .u8 0, .int .u8 0, .int .u8 0, .int .u8 0, .int .u8 0, .int .u8 0, .int .u8 0, .int .u8 0, .int .u8 0, .int .u8 0, .int .u8 0, .int .u8 0, .int .u8 0, .int .u8 0, .int .u8 0, .int .u8 0, .int .u8 0, .int .u8 0, .int .u8 0, .int .u8 0, .int .u8 0, .int .u8 0, .int .u8 0, .int .u8 0, .int .u8 0, .int .u8 0, .int .u8 0, .int .u8 0, .int .u8 0, .int .u8 0, .int .u8 0, .int .u8 0, .int .u8 0, .int .u8 0, .int .u8 0, .int .u8 0, .int .u8 0, .int .u8 0, .int .u8 0, .int .u8 0, .int .u8 0, .int .u8 0, .int .u8 0, .int .u8 0, .int .u8 0, .int .u8 0, .int .u8 0, .int .u8 0, .int .u8 0, .int .u8 0, .int .u8 0, .int .u8 0, .int .u8 0, .int .u8 0, .int .u8 0, .int .u8 0, .int .u8 0, .int .u8 0, .int .u8 0, .int .u8 0, .int .u8 0, .int .u8 0, .int .u8 0, .int .u8 0, .int .u8 0, .int .u8 0, .int .u8 0, .int .u8 0, .int .u8 0, .int .u8 0, .int .u8 0, .int .u8 0, .int .u8 0, .int .u8 0, .int .u8 0, .int .u8 0, .int .u8 0, .int .u8 0, .int .u8 0, .int .u8 0, .int .u8 0, .int .u8 0, .int .u8 0, .int .u8 0, .int .u8 0, .int .u8 0, .int .u8 0, .int .u8 0, .int .u8 0, .int .u8 0, .int .u8 0, .int .u8 0, .int .u8 0, .int .u8 0, .int .u8 0, .int .u8 0, .int .u8 0, .int .u8 0, .int .u8 0, .int .u8 0, .int .u8 0, .int .u8 0, .int .u8 0, .int .u8 0, .int .u8 0, .int .u8 0, .int .u8 0, .int .u8 0, .int .u8 0, .int .u8 0, .int .u8 0, .int .u8 0, .int .u8 0, .int .u8 0, .int .u8 0, .int .u8 0, .int .u8 0, .int .u8 0, .int .u8 0, .int .u8 0, .int .u8 0, .int .u8 0, .int .u8 0, .int .u8 0, .int .u8 0, .int .u8 0, .int .u8 0, .int .u8 0, .int .u8 0, .int .u8 0, .int .u8 0, .int .u8 0, .int .u8 0, .int .u8 0, .int .u8 0, .int .u8 0, .int .u8 0, .int .u8 0, .int .u8 0, .int .u8 0, .int .u8 0, .int .u8 0, .int .u8 0, .int .u8 0, .int .u8 0, .int .u8 0, .int .u8 0, .int .u8 0, .int .u8 0]⟩,
  some ⟨.array 4 4, 4, 4, [.bool false, .bool false, .bool false, .bool false]⟩,
  some ⟨.func, 1, 8, [.nilFunc]⟩,
  some ⟨.func, 1, 8, [.nilFunc]⟩,
  some ⟨.func, 1, 8, [.nilFunc]⟩,
  some ⟨.func, 1, 8, [.nilFunc]⟩,
  some ⟨.func, 1, 8, [.nilFunc]⟩,
  some ⟨.func, 1, 8, [.nilFunc]⟩,
  some ⟨.func, 1, 8, [.nilFunc]⟩,
  some ⟨.ptr 298, 1, 8, [.pointer none]⟩,
  some ⟨.func, 1, 8, [.nilFunc]⟩,
  some ⟨.array 16 3, 16, 128, [.int .i64 0, .int .i64 0, .int .i64 0, .int .i64 0, .int .i64 0, .int .i64 0, .int .i64 0, .int .i64 0, .int .i64 0, .int .i64 0, .int .i64 0, .int .i64 0, .int .i64 0, .int .i64 0, .int .i64 0, .int .i64 0]⟩,
  some ⟨.array 10 313, 160, 1280, [.int .i64 0, .int .i64 0, .int .i64 0, .int .i64 0, .int .i64 0, .int .i64 0, .int .i64 0, .int .i64 0, .int .i64 0, .int .i64 0, .int .i64 0, .int .i64 0, .int .i64 0, .int .i64 0, .int .i64 0, .int .i64 0, .int .i64 0, .int .i64 0, .int .i64 0, .int .i64 0, .int .i64 0, .int .i64 0, .int .i64 0, .int .i64 0, .int .i64 0, .int .i64 0, .int .i64 0, .int .i64 0, .int .i64 0, .int .i64 0, .int .i64 0, .int .i64 0, .int .i64 0, .int .i64 0, .int .i64 0, .int .i64 0, .int .i64 0, .int .i64 0, .int .i64 0, .int .i64 0, .int .i64 0, .int .i64 0, .int .i64 0, .int .i64 0, .int .i64 0, .int .i64 0, .int .i64 0, .int .i64 0, .int .i64 0, .int .i64 0, .int .i64 0, .int .i64 0, .int .i64 0, .int .i64 0, .int .i64 0, .int .i64 0, .int .i64 0, .int .i64 0, .int .i64 0, .int .i64 0, .int .i64 0, .int .i64 0, .int .i64 0, .int .i64 0, .int .i64 0, .int .i64 0, .int .i64 0, .int .i64 0, .int .i64 0, .int .i64 0, .int .i64 0, .int .i64 0, .int .i64 0, .int .i64 0, .int .i64 0, .int .i64 0, .int .i64 0, .int .i64 0, .int .i64 0, .int .i64 0, .int .i64 0, .int .i64 0, .int .i64 0, .int .i64 0, .int .i64 0, .int .i64 0, .int .i64 0, .int .i64 0, .int .i64 0, .int .i64 0, .int .i64 0, .int .i64 0, .int .i64 0, .int .i64 0, .int .i64 0, .int .i64 0, .int .i64 0, .int .i64 0, .int .i64 0, .int .i64 0, .int .i64 0, .int .i64 0, .int .i64 0, .int .i64 0, .int .i64 0, .int .i64 0, .int .i64 0, .int .i64 0, .int .i64 0, .int .i64 0, .int .i64 0, .int .i64 0, .int .i64 0, .int .i64 0, .int .i64 0, .int .i64 0, .int .i64 0, .int .i64 0, .int .i64 0, .int .i64 0, .int .i64 0, .int .i64 0, .int .i64 0, .int .i64 0, .int .i64 0, .int .i64 0, .int .i64 0, .int .i64 0, .int .i64 0, .int .i64 0, .int .i64 0, .int .i64 0, .int .i64 0, .int .i64 0, .int .i64 0, .int .i64 0, .int .i64 0, .int .i64 0, .int .i64 0, .int .i64 0, .int .i64 0, .int .i64 0, .int .i64 0, .int .i64 0, .int .i64 0, .int .i64 0, .int .i64 0, .int .i64 0, .int .i64 0, .int .i64 0, .int .i64 0, .int .i64 0, .int .i64 0, .int .i64 0, .int .i64 0, .int .i64 0, .int .i64 0, .int .i64 0, .int .i64 0, .int .i64 0]⟩,
  some ⟨.func, 1, 8, [.nilFunc]⟩,
  some ⟨.array 4 3, 4, 32, [.int .i64 0, .int .i64 0, .int .i64 0, .int .i64 0]⟩,
  none,
  some ⟨.func, 1, 8, [.nilFunc]⟩,
  some ⟨.func, 1, 8, [.nilFunc]⟩,
  some ⟨.struct [(0, 17), (1, 17), (2, 17), (3, 9)], 4, 40, [.pointer none, .pointer none, .pointer none, .string { data := #[] }]⟩,
  some ⟨.struct [(0, 17), (1, 17), (2, 17), (3, 9)], 4, 40, [.pointer none, .pointer none, .pointer none, .string { data := #[] }]⟩,
  some ⟨.array 0 16, 0, 0, []⟩,
  some ⟨.struct [(0, 322)], 0, 0, []⟩,
  some ⟨.struct [(0, 322)], 0, 0, []⟩,
  some ⟨.func, 1, 8, [.nilFunc]⟩,
  some ⟨.int .u8, 1, 1, [.int .u8 0]⟩,
  some ⟨.int .u8, 1, 1, [.int .u8 0]⟩,
  some ⟨.func, 1, 8, [.nilFunc]⟩,
  some ⟨.ptr 5, 1, 8, [.pointer none]⟩,
  some ⟨.int .i32, 1, 4, [.int .i32 0]⟩,
  some ⟨.int .i32, 1, 4, [.int .i32 0]⟩,
  some ⟨.struct [(0, 12), (1, 12), (2, 228), (3, 326), (4, 5), (5, 5), (6, 327), (7, 328), (8, 329), (9, 330), (10, 331)], 11, 48, [.int .u64 0, .int .u64 0, .int .u32 0, .int .u8 0, .int .u8 0, .int .u8 0, .int .u8 0, .nilFunc, .pointer none, .int .i32 0, .int .i32 0]⟩,
  some ⟨.struct [(0, 12), (1, 12), (2, 228), (3, 326), (4, 5), (5, 5), (6, 327), (7, 328), (8, 329), (9, 330), (10, 331)], 11, 48, [.int .u64 0, .int .u64 0, .int .u32 0, .int .u8 0, .int .u8 0, .int .u8 0, .int .u8 0, .nilFunc, .pointer none, .int .i32 0, .int .i32 0]⟩]
def Tryz.τ : Tab := fun T => Tryz.tL[T]?.bind id

def AllOk (P : Program) : Nat → List (Option TE) → Prop
  | _, [] => True
  | n, none :: l => AllOk P (n + 1) l
  | n, some e :: l => TyOk P n e ∧ AllOk P (n + 1) l
theorem AllOk.at {P : Program} : ∀ (l : List (Option TE)) (n i : Nat) (e : TE), AllOk P n l → l[i]? = some (some e) → TyOk P (n + i) e
  | [], _, _, _, _, h => by simp at h
  | none :: l, n, 0, _, _, h => by simp at h
  | none :: l, n, i + 1, e, h, hi => by have := AllOk.at l (n + 1) i e h (by simpa using hi); rwa [Nat.add_assoc, Nat.add_comm 1 i] at this
  | some d :: l, n, 0, e, h, hi => by simp at hi; subst hi; exact h.1
  | some d :: l, n, i + 1, e, h, hi => by have := AllOk.at l (n + 1) i e h.2 (by simpa using hi); rwa [Nat.add_assoc, Nat.add_comm 1 i] at this
@[simp] theorem Tryz.τ1 : Tryz.τ 1 = some ⟨.func, 1, 8, [.nilFunc]⟩ := rfl
@[simp] theorem Tryz.τ2 : Tryz.τ 2 = some ⟨.int .i64, 1, 8, [.int .i64 0]⟩ := rfl
@[simp] theorem Tryz.τ3 : Tryz.τ 3 = some ⟨.int .i64, 1, 8, [.int .i64 0]⟩ := rfl
@[simp] theorem Tryz.τ4 : Tryz.τ 4 = some ⟨.bool, 1, 1, [.bool false]⟩ := rfl
@[simp] theorem Tryz.τ5 : Tryz.τ 5 = some ⟨.int .u8, 1, 1, [.int .u8 0]⟩ := rfl
@[simp] theorem Tryz.τ6 : Tryz.τ 6 = some ⟨.int .u8, 1, 1, [.int .u8 0]⟩ := rfl
@[simp] theorem Tryz.τ7 : Tryz.τ 7 = some ⟨.struct [(0, 2), (1, 3), (2, 4), (3, 6)], 4, 24, [.int .i64 0, .int .i64 0, .bool false, .int .u8 0]⟩ := rfl
@[simp] theorem Tryz.τ8 : Tryz.τ 8 = some ⟨.struct [(0, 2), (1, 3), (2, 4), (3, 6)], 4, 24, [.int .i64 0, .int .i64 0, .bool false, .int .u8 0]⟩ := rfl
@[simp] theorem Tryz.τ9 : Tryz.τ 9 = some ⟨.string, 1, 16, [.string { data := #[] }]⟩ := rfl
@[simp] theorem Tryz.τ10 : Tryz.τ 10 = some ⟨.string, 1, 16, [.string { data := #[] }]⟩ := rfl
@[simp] theorem Tryz.τ11 : Tryz.τ 11 = some ⟨.string, 1, 16, [.string { data := #[] }]⟩ := rfl
@[simp] theorem Tryz.τ12 : Tryz.τ 12 = some ⟨.int .u64, 1, 8, [.int .u64 0]⟩ := rfl
@[simp] theorem Tryz.τ13 : Tryz.τ 13 = some ⟨.struct [(0, 9), (1, 12)], 2, 24, [.string { data := #[] }, .int .u64 0]⟩ := rfl
@[simp] theorem Tryz.τ14 : Tryz.τ 14 = some ⟨.struct [(0, 9), (1, 12)], 2, 24, [.string { data := #[] }, .int .u64 0]⟩ := rfl
@[simp] theorem Tryz.τ15 : Tryz.τ 15 = some ⟨.ptr 321, 1, 8, [.pointer none]⟩ := rfl
@[simp] theorem Tryz.τ16 : Tryz.τ 16 = some ⟨.ptr 324, 1, 8, [.pointer none]⟩ := rfl
@[simp] theorem Tryz.τ17 : Tryz.τ 17 = some ⟨.ptr 333, 1, 8, [.pointer none]⟩ := rfl
@[simp] theorem Tryz.τ18 : Tryz.τ 18 = some ⟨.struct [(0, 17)], 1, 8, [.pointer none]⟩ := rfl
@[simp] theorem Tryz.τ19 : Tryz.τ 19 = some ⟨.struct [(0, 17)], 1, 8, [.pointer none]⟩ := rfl
@[simp] theorem Tryz.τ20 : Tryz.τ 20 = some ⟨.iface, 1, 16, [.nilIface]⟩ := rfl
@[simp] theorem Tryz.τ21 : Tryz.τ 21 = some ⟨.int .i32, 1, 4, [.int .i32 0]⟩ := rfl
@[simp] theorem Tryz.τ22 : Tryz.τ 22 = some ⟨.slice 90, 1, 24, [.slice none 0 0]⟩ := rfl
@[simp] theorem Tryz.τ23 : Tryz.τ 23 = some ⟨.slice 68, 1, 24, [.slice none 0 0]⟩ := rfl
@[simp] theorem Tryz.τ24 : Tryz.τ 24 = some ⟨.struct [(0, 23)], 1, 24, [.slice none 0 0]⟩ := rfl
@[simp] theorem Tryz.τ25 : Tryz.τ 25 = some ⟨.struct [(0, 23)], 1, 24, [.slice none 0 0]⟩ := rfl
@[simp] theorem Tryz.τ26 : Tryz.τ 26 = some ⟨.func, 1, 8, [.nilFunc]⟩ := rfl
@[simp] theorem Tryz.τ27 : Tryz.τ 27 = some ⟨.func, 1, 8, [.nilFunc]⟩ := rfl
@[simp] theorem Tryz.τ28 : Tryz.τ 28 = some ⟨.func, 1, 8, [.nilFunc]⟩ := rfl
@[simp] theorem Tryz.τ29 : Tryz.τ 29 = some ⟨.int .i64, 1, 8, [.int .i64 0]⟩ := rfl
@[simp] theorem Tryz.τ31 : Tryz.τ 31 = some ⟨.func, 1, 8, [.nilFunc]⟩ := rfl
@[simp] theorem Tryz.τ32 : Tryz.τ 32 = some ⟨.slice 39, 1, 24, [.slice none 0 0]⟩ := rfl
@[simp] theorem Tryz.τ33 : Tryz.τ 33 = some ⟨.func, 1, 8, [.nilFunc]⟩ := rfl
@[simp] theorem Tryz.τ34 : Tryz.τ 34 = some ⟨.func, 1, 8, [.nilFunc]⟩ := rfl
@[simp] theorem Tryz.τ35 : Tryz.τ 35 = some ⟨.func, 1, 8, [.nilFunc]⟩ := rfl
@[simp] theorem Tryz.τ36 : Tryz.τ 36 = some ⟨.slice 3, 1, 24, [.slice none 0 0]⟩ := rfl
@[simp] theorem Tryz.τ37 : Tryz.τ 37 = some ⟨.func, 1, 8, [.nilFunc]⟩ := rfl
@[simp] theorem Tryz.τ38 : Tryz.τ 38 = some ⟨.struct [(0, 3), (1, 3)], 2, 16, [.int .i64 0, .int .i64 0]⟩ := rfl
@[simp] theorem Tryz.τ39 : Tryz.τ 39 = some ⟨.struct [(0, 3), (1, 3)], 2, 16, [.int .i64 0, .int .i64 0]⟩ := rfl
@[simp] theorem Tryz.τ40 : Tryz.τ 40 = some ⟨.struct [(0, 3), (1, 3), (2, 3), (3, 3), (4, 3), (5, 3), (6, 3), (7, 3)], 8, 64, [.int .i64 0, .int .i64 0, .int .i64 0, .int .i64 0, .int .i64 0, .int .i64 0, .int .i64 0, .int .i64 0]⟩ := rfl
@[simp] theorem Tryz.τ41 : Tryz.τ 41 = some ⟨.struct [(0, 3), (1, 3), (2, 3), (3, 3), (4, 3), (5, 3), (6, 3), (7, 3)], 8, 64, [.int .i64 0, .int .i64 0, .int .i64 0, .int .i64 0, .int .i64 0, .int .i64 0, .int .i64 0, .int .i64 0]⟩ := rfl
@[simp] theorem Tryz.τ42 : Tryz.τ 42 = some ⟨.struct [(0, 3), (1, 3), (2, 3), (3, 3)], 4, 32, [.int .i64 0, .int .i64 0, .int .i64 0, .int .i64 0]⟩ := rfl
@[simp] theorem Tryz.τ43 : Tryz.τ 43 = some ⟨.struct [(0, 3), (1, 3), (2, 3), (3, 3)], 4, 32, [.int .i64 0, .int .i64 0, .int .i64 0, .int .i64 0]⟩ := rfl
@[simp] theorem Tryz.τ44 : Tryz.τ 44 = some ⟨.struct [(0, 3), (1, 3), (2, 3), (3, 3), (4, 3)], 5, 40, [.int .i64 0, .int .i64 0, .int .i64 0, .int .i64 0, .int .i64 0]⟩ := rfl
@[simp] theorem Tryz.τ45 : Tryz.τ 45 = some ⟨.struct [(0, 3), (1, 3), (2, 3), (3, 3), (4, 3)], 5, 40, [.int .i64 0, .int .i64 0, .int .i64 0, .int .i64 0, .int .i64 0]⟩ := rfl
@[simp] theorem Tryz.τ46 : Tryz.τ 46 = some ⟨.struct [(0, 3), (1, 3), (2, 3), (3, 3), (4, 3), (5, 3), (6, 3), (7, 3)], 8, 64, [.int .i64 0, .int .i64 0, .int .i64 0, .int .i64 0, .int .i64 0, .int .i64 0, .int .i64 0, .int .i64 0]⟩ := rfl
@[simp] theorem Tryz.τ47 : Tryz.τ 47 = some ⟨.struct [(0, 3), (1, 3), (2, 3), (3, 3), (4, 3), (5, 3), (6, 3), (7, 3)], 8, 64, [.int .i64 0, .int .i64 0, .int .i64 0, .int .i64 0, .int .i64 0, .int .i64 0, .int .i64 0, .int .i64 0]⟩ := rfl
@[simp] theorem Tryz.τ48 : Tryz.τ 48 = some ⟨.struct [(0, 3), (1, 3), (2, 3), (3, 3)], 4, 32, [.int .i64 0, .int .i64 0, .int .i64 0, .int .i64 0]⟩ := rfl
@[simp] theorem Tryz.τ49 : Tryz.τ 49 = some ⟨.struct [(0, 3), (1, 3), (2, 3), (3, 3)], 4, 32, [.int .i64 0, .int .i64 0, .int .i64 0, .int .i64 0]⟩ := rfl
@[simp] theorem Tryz.τ50 : Tryz.τ 50 = some ⟨.struct [(0, 3), (1, 3), (2, 3), (3, 3)], 4, 32, [.int .i64 0, .int .i64 0, .int .i64 0, .int .i64 0]⟩ := rfl
@[simp] theorem Tryz.τ51 : Tryz.τ 51 = some ⟨.struct [(0, 3), (1, 3), (2, 3), (3, 3)], 4, 32, [.int .i64 0, .int .i64 0, .int .i64 0, .int .i64 0]⟩ := rfl
@[simp] theorem Tryz.τ52 : Tryz.τ 52 = some ⟨.struct [(0, 3), (1, 3)], 2, 16, [.int .i64 0, .int .i64 0]⟩ := rfl
@[simp] theorem Tryz.τ53 : Tryz.τ 53 = some ⟨.struct [(0, 3), (1, 3)], 2, 16, [.int .i64 0, .int .i64 0]⟩ := rfl
@[simp] theorem Tryz.τ54 : Tryz.τ 54 = some ⟨.struct [(0, 3), (1, 3), (2, 3), (3, 3)], 4, 32, [.int .i64 0, .int .i64 0, .int .i64 0, .int .i64 0]⟩ := rfl
@[simp] theorem Tryz.τ55 : Tryz.τ 55 = some ⟨.struct [(0, 3), (1, 3), (2, 3), (3, 3)], 4, 32, [.int .i64 0, .int .i64 0, .int .i64 0, .int .i64 0]⟩ := rfl
@[simp] theorem Tryz.τ56 : Tryz.τ 56 = some ⟨.struct [(0, 3), (1, 3), (2, 3), (3, 3)], 4, 32, [.int .i64 0, .int .i64 0, .int .i64 0, .int .i64 0]⟩ := rfl
@[simp] theorem Tryz.τ57 : Tryz.τ 57 = some ⟨.struct [(0, 3), (1, 3), (2, 3), (3, 3)], 4, 32, [.int .i64 0, .int .i64 0, .int .i64 0, .int .i64 0]⟩ := rfl
@[simp] theorem Tryz.τ58 : Tryz.τ 58 = some ⟨.struct [(0, 3), (1, 3), (2, 3), (3, 3), (4, 3), (5, 3)], 6, 48, [.int .i64 0, .int .i64 0, .int .i64 0, .int .i64 0, .int .i64 0, .int .i64 0]⟩ := rfl
@[simp] theorem Tryz.τ59 : Tryz.τ 59 = some ⟨.struct [(0, 3), (1, 3), (2, 3), (3, 3), (4, 3), (5, 3)], 6, 48, [.int .i64 0, .int .i64 0, .int .i64 0, .int .i64 0, .int .i64 0, .int .i64 0]⟩ := rfl
@[simp] theorem Tryz.τ60 : Tryz.τ 60 = some ⟨.struct [(0, 3), (1, 4)], 2, 16, [.int .i64 0, .bool false]⟩ := rfl
@[simp] theorem Tryz.τ61 : Tryz.τ 61 = some ⟨.struct [(0, 3), (1, 4)], 2, 16, [.int .i64 0, .bool false]⟩ := rfl
@[simp] theorem Tryz.τ62 : Tryz.τ 62 = some ⟨.struct [(0, 3), (1, 3), (2, 3), (3, 3), (4, 41), (12, 43), (16, 45), (21, 47), (29, 49), (33, 51), (37, 53), (39, 55), (43, 57), (47, 59), (53, 61), (55, 39)], 57, 456, [.int .i64 0, .int .i64 0, .int .i64 0, .int .i64 0, .int .i64 0, .int .i64 0, .int .i64 0, .int .i64 0, .int .i64 0, .int .i64 0, .int .i64 0, .int .i64 0, .int .i64 0, .int .i64 0, .int .i64 0, .int .i64 0, .int .i64 0, .int .i64 0, .int .i64 0, .int .i64 0, .int .i64 0, .int .i64 0, .int .i64 0, .int .i64 0, .int .i64 0, .int .i64 0, .int .i64 0, .int .i64 0, .int .i64 0, .int .i64 0, .int .i64 0, .int .i64 0, .int .i64 0, .int .i64 0, .int .i64 0, .int .i64 0, .int .i64 0, .int .i64 0, .int .i64 0, .int .i64 0, .int .i64 0, .int .i64 0, .int .i64 0, .int .i64 0, .int .i64 0, .int .i64 0, .int .i64 0, .int .i64 0, .int .i64 0, .int .i64 0, .int .i64 0, .int .i64 0, .int .i64 0, .int .i64 0, .bool false, .int .i64 0, .int .i64 0]⟩ := rfl
@[simp] theorem Tryz.τ63 : Tryz.τ 63 = some ⟨.struct [(0, 3), (1, 3), (2, 3), (3, 3), (4, 41), (12, 43), (16, 45), (21, 47), (29, 49), (33, 51), (37, 53), (39, 55), (43, 57), (47, 59), (53, 61), (55, 39)], 57, 456, [.int .i64 0, .int .i64 0, .int .i64 0, .int .i64 0, .int .i64 0, .int .i64 0, .int .i64 0, .int .i64 0, .int .i64 0, .int .i64 0, .int .i64 0, .int .i64 0, .int .i64 0, .int .i64 0, .int .i64 0, .int .i64 0, .int .i64 0, .int .i64 0, .int .i64 0, .int .i64 0, .int .i64 0, .int .i64 0, .int .i64 0, .int .i64 0, .int .i64 0, .int .i64 0, .int .i64 0, .int .i64 0, .int .i64 0, .int .i64 0, .int .i64 0, .int .i64 0, .int .i64 0, .int .i64 0, .int .i64 0, .int .i64 0, .int .i64 0, .int .i64 0, .int .i64 0, .int .i64 0, .int .i64 0, .int .i64 0, .int .i64 0, .int .i64 0, .int .i64 0, .int .i64 0, .int .i64 0, .int .i64 0, .int .i64 0, .int .i64 0, .int .i64 0, .int .i64 0, .int .i64 0, .int .i64 0, .bool false, .int .i64 0, .int .i64 0]⟩ := rfl
@[simp] theorem Tryz.τ64 : Tryz.τ 64 = some ⟨.slice 88, 1, 24, [.slice none 0 0]⟩ := rfl
@[simp] theorem Tryz.τ65 : Tryz.τ 65 = some ⟨.struct [(0, 3), (1, 64), (2, 64), (3, 64)], 4, 80, [.int .i64 0, .slice none 0 0, .slice none 0 0, .slice none 0 0]⟩ := rfl
@[simp] theorem Tryz.τ66 : Tryz.τ 66 = some ⟨.struct [(0, 3), (1, 64), (2, 64), (3, 64)], 4, 80, [.int .i64 0, .slice none 0 0, .slice none 0 0, .slice none 0 0]⟩ := rfl
@[simp] theorem Tryz.τ67 : Tryz.τ 67 = some ⟨.struct [(0, 63), (57, 66)], 61, 536, [.int .i64 0, .int .i64 0, .int .i64 0, .int .i64 0, .int .i64 0, .int .i64 0, .int .i64 0, .int .i64 0, .int .i64 0, .int .i64 0, .int .i64 0, .int .i64 0, .int .i64 0, .int .i64 0, .int .i64 0, .int .i64 0, .int .i64 0, .int .i64 0, .int .i64 0, .int .i64 0, .int .i64 0, .int .i64 0, .int .i64 0, .int .i64 0, .int .i64 0, .int .i64 0, .int .i64 0, .int .i64 0, .int .i64 0, .int .i64 0, .int .i64 0, .int .i64 0, .int .i64 0, .int .i64 0, .int .i64 0, .int .i64 0, .int .i64 0, .int .i64 0, .int .i64 0, .int .i64 0, .int .i64 0, .int .i64 0, .int .i64 0, .int .i64 0, .int .i64 0, .int .i64 0, .int .i64 0, .int .i64 0, .int .i64 0, .int .i64 0, .int .i64 0, .int .i64 0, .int .i64 0, .int .i64 0, .bool false, .int .i64 0, .int .i64 0, .int .i64 0, .slice none 0 0, .slice none 0 0, .slice none 0 0]⟩ := rfl
@[simp] theorem Tryz.τ68 : Tryz.τ 68 = some ⟨.struct [(0, 63), (57, 66)], 61, 536, [.int .i64 0, .int .i64 0, .int .i64 0, .int .i64 0, .int .i64 0, .int .i64 0, .int .i64 0, .int .i64 0, .int .i64 0, .int .i64 0, .int .i64 0, .int .i64 0, .int .i64 0, .int .i64 0, .int .i64 0, .int .i64 0, .int .i64 0, .int .i64 0, .int .i64 0, .int .i64 0, .int .i64 0, .int .i64 0, .int .i64 0, .int .i64 0, .int .i64 0, .int .i64 0, .int .i64 0, .int .i64 0, .int .i64 0, .int .i64 0, .int .i64 0, .int .i64 0, .int .i64 0, .int .i64 0, .int .i64 0, .int .i64 0, .int .i64 0, .int .i64 0, .int .i64 0, .int .i64 0, .int .i64 0, .int .i64 0, .int .i64 0, .int .i64 0, .int .i64 0, .int .i64 0, .int .i64 0, .int .i64 0, .int .i64 0, .int .i64 0, .int .i64 0, .int .i64 0, .int .i64 0, .int .i64 0, .bool false, .int .i64 0, .int .i64 0, .int .i64 0, .slice none 0 0, .slice none 0 0, .slice none 0 0]⟩ := rfl
@[simp] theorem Tryz.τ69 : Tryz.τ 69 = some ⟨.struct [(0, 68), (61, 68)], 122, 1072, [.int .i64 0, .int .i64 0, .int .i64 0, .int .i64 0, .int .i64 0, .int .i64 0, .int .i64 0, .int .i64 0, .int .i64 0, .int .i64 0, .int .i64 0, .int .i64 0, .int .i64 0, .int .i64 0, .int .i64 0, .int .i64 0, .int .i64 0, .int .i64 0, .int .i64 0, .int .i64 0, .int .i64 0, .int .i64 0, .int .i64 0, .int .i64 0, .int .i64 0, .int .i64 0, .int .i64 0, .int .i64 0, .int .i64 0, .int .i64 0, .int .i64 0, .int .i64 0, .int .i64 0, .int .i64 0, .int .i64 0, .int .i64 0, .int .i64 0, .int .i64 0, .int .i64 0, .int .i64 0, .int .i64 0, .int .i64 0, .int .i64 0, .int .i64 0, .int .i64 0, .int .i64 0, .int .i64 0, .int .i64 0, .int .i64 0, .int .i64 0, .int .i64 0, .int .i64 0, .int .i64 0, .int .i64 0, .bool false, .int .i64 0, .int .i64 0, .int .i64 0, .slice none 0 0, .slice none 0 0, .slice none 0 0, .int .i64 0, .int .i64 0, .int .i64 0, .int .i64 0, .int .i64 0, .int .i64 0, .int .i64 0, .int .i64 0, .int .i64 0, .int .i64 0, .int .i64 0, .int .i64 0, .int .i64 0, .int .i64 0, .int .i64 0, .int .i64 0, .int .i64 0, .int .i64 0, .int .i64 0, .int .i64 0, .int .i64 0, .int .i64 0, .int .i64 0, .int .i64 0, .int .i64 0, .int .i64 0, .int .i64 0, .int .i64 0, .int .i64 0, .int .i64 0, .int .i64 0, .int .i64 0, .int .i64 0, .int .i64 0, .int .i64 0, .int .i64 0, .int .i64 0, .int .i64 0, .int .i64 0, .int .i64 0, .int .i64 0, .int .i64 0, .int .i64 0, .int .i64 0, .int .i64 0, .int .i64 0, .int .i64 0, .int .i64 0, .int .i64 0, .int .i64 0, .int .i64 0, .int .i64 0, .int .i64 0, .int .i64 0, .bool false, .int .i64 0, .int .i64 0, .int .i64 0, .slice none 0 0, .slice none 0 0, .slice none 0 0]⟩ := rfl
@[simp] theorem Tryz.τ70 : Tryz.τ 70 = some ⟨.struct [(0, 68), (61, 68)], 122, 1072, [.int .i64 0, .int .i64 0, .int .i64 0, .int .i64 0, .int .i64 0, .int .i64 0, .int .i64 0, .int .i64 0, .int .i64 0, .int .i64 0, .int .i64 0, .int .i64 0, .int .i64 0, .int .i64 0, .int .i64 0, .int .i64 0, .int .i64 0, .int .i64 0, .int .i64 0, .int .i64 0, .int .i64 0, .int .i64 0, .int .i64 0, .int .i64 0, .int .i64 0, .int .i64 0, .int .i64 0, .int .i64 0, .int .i64 0, .int .i64 0, .int .i64 0, .int .i64 0, .int .i64 0, .int .i64 0, .int .i64 0, .int .i64 0, .int .i64 0, .int .i64 0, .int .i64 0, .int .i64 0, .int .i64 0, .int .i64 0, .int .i64 0, .int .i64 0, .int .i64 0, .int .i64 0, .int .i64 0, .int .i64 0, .int .i64 0, .int .i64 0, .int .i64 0, .int .i64 0, .int .i64 0, .int .i64 0, .bool false, .int .i64 0, .int .i64 0, .int .i64 0, .slice none 0 0, .slice none 0 0, .slice none 0 0, .int .i64 0, .int .i64 0, .int .i64 0, .int .i64 0, .int .i64 0, .int .i64 0, .int .i64 0, .int .i64 0, .int .i64 0, .int .i64 0, .int .i64 0, .int .i64 0, .int .i64 0, .int .i64 0, .int .i64 0, .int .i64 0, .int .i64 0, .int .i64 0, .int .i64 0, .int .i64 0, .int .i64 0, .int .i64 0, .int .i64 0, .int .i64 0, .int .i64 0, .int .i64 0, .int .i64 0, .int .i64 0, .int .i64 0, .int .i64 0, .int .i64 0, .int .i64 0, .int .i64 0, .int .i64 0, .int .i64 0, .int .i64 0, .int .i64 0, .int .i64 0, .int .i64 0, .int .i64 0, .int .i64 0, .int .i64 0, .int .i64 0, .int .i64 0, .int .i64 0, .int .i64 0, .int .i64 0, .int .i64 0, .int .i64 0, .int .i64 0, .int .i64 0, .int .i64 0, .int .i64 0, .int .i64 0, .bool false, .int .i64 0, .int .i64 0, .int .i64 0, .slice none 0 0, .slice none 0 0, .slice none 0 0]⟩ := rfl
@[simp] theorem Tryz.τ72 : Tryz.τ 72 = some ⟨.func, 1, 8, [.nilFunc]⟩ := rfl
@[simp] theorem Tryz.τ73 : Tryz.τ 73 = some ⟨.func, 1, 8, [.nilFunc]⟩ := rfl
@[simp] theorem Tryz.τ74 : Tryz.τ 74 = some ⟨.func, 1, 8, [.nilFunc]⟩ := rfl
@[simp] theorem Tryz.τ75 : Tryz.τ 75 = some ⟨.func, 1, 8, [.nilFunc]⟩ := rfl
@[simp] theorem Tryz.τ76 : Tryz.τ 76 = some ⟨.func, 1, 8, [.nilFunc]⟩ := rfl
@[simp] theorem Tryz.τ77 : Tryz.τ 77 = some ⟨.func, 1, 8, [.nilFunc]⟩ := rfl
@[simp] theorem Tryz.τ78 : Tryz.τ 78 = some ⟨.func, 1, 8, [.nilFunc]⟩ := rfl
@[simp] theorem Tryz.τ79 : Tryz.τ 79 = some ⟨.slice 70, 1, 24, [.slice none 0 0]⟩ := rfl
@[simp] theorem Tryz.τ80 : Tryz.τ 80 = some ⟨.func, 1, 8, [.nilFunc]⟩ := rfl
@[simp] theorem Tryz.τ81 : Tryz.τ 81 = some ⟨.slice 63, 1, 24, [.slice none 0 0]⟩ := rfl
@[simp] theorem Tryz.τ82 : Tryz.τ 82 = some ⟨.func, 1, 8, [.nilFunc]⟩ := rfl
@[simp] theorem Tryz.τ83 : Tryz.τ 83 = some ⟨.func, 1, 8, [.nilFunc]⟩ := rfl
@[simp] theorem Tryz.τ84 : Tryz.τ 84 = some ⟨.func, 1, 8, [.nilFunc]⟩ := rfl
@[simp] theorem Tryz.τ85 : Tryz.τ 85 = some ⟨.func, 1, 8, [.nilFunc]⟩ := rfl
@[simp] theorem Tryz.τ86 : Tryz.τ 86 = some ⟨.func, 1, 8, [.nilFunc]⟩ := rfl
@[simp] theorem Tryz.τ87 : Tryz.τ 87 = some ⟨.array 32 5, 32, 32, [.int .u8 0, .int .u8 0, .int .u8 0, .int .u8 0, .int .u8 0, .int .u8 0, .int .u8 0, .int .u8 0, .int .u8 0, .int .u8 0, .int .u8 0, .int .u8 0, .int .u8 0, .int .u8 0, .int .u8 0, .int .u8 0, .int .u8 0, .int .u8 0, .int .u8 0, .int .u8 0, .int .u8 0, .int .u8 0, .int .u8 0, .int .u8 0, .int .u8 0, .int .u8 0, .int .u8 0, .int .u8 0, .int .u8 0, .int .u8 0, .int .u8 0, .int .u8 0]⟩ := rfl
@[simp] theorem Tryz.τ88 : Tryz.τ 88 = some ⟨.array 32 5, 32, 32, [.int .u8 0, .int .u8 0, .int .u8 0, .int .u8 0, .int .u8 0, .int .u8 0, .int .u8 0, .int .u8 0, .int .u8 0, .int .u8 0, .int .u8 0, .int .u8 0, .int .u8 0, .int .u8 0, .int .u8 0, .int .u8 0, .int .u8 0, .int .u8 0, .int .u8 0, .int .u8 0, .int .u8 0, .int .u8 0, .int .u8 0, .int .u8 0, .int .u8 0, .int .u8 0, .int .u8 0, .int .u8 0, .int .u8 0, .int .u8 0, .int .u8 0, .int .u8 0]⟩ := rfl
@[simp] theorem Tryz.τ89 : Tryz.τ 89 = some ⟨.struct [(0, 88), (32, 3)], 33, 40, [.int .u8 0, .int .u8 0, .int .u8 0, .int .u8 0, .int .u8 0, .int .u8 0, .int .u8 0, .int .u8 0, .int .u8 0, .int .u8 0, .int .u8 0, .int .u8 0, .int .u8 0, .int .u8 0, .int .u8 0, .int .u8 0, .int .u8 0, .int .u8 0, .int .u8 0, .int .u8 0, .int .u8 0, .int .u8 0, .int .u8 0, .int .u8 0, .int .u8 0, .int .u8 0, .int .u8 0, .int .u8 0, .int .u8 0, .int .u8 0, .int .u8 0, .int .u8 0, .int .i64 0]⟩ := rfl
@[simp] theorem Tryz.τ90 : Tryz.τ 90 = some ⟨.struct [(0, 88), (32, 3)], 33, 40, [.int .u8 0, .int .u8 0, .int .u8 0, .int .u8 0, .int .u8 0, .int .u8 0, .int .u8 0, .int .u8 0, .int .u8 0, .int .u8 0, .int .u8 0, .int .u8 0, .int .u8 0, .int .u8 0, .int .u8 0, .int .u8 0, .int .u8 0, .int .u8 0, .int .u8 0, .int .u8 0, .int .u8 0, .int .u8 0, .int .u8 0, .int .u8 0, .int .u8 0, .int .u8 0, .int .u8 0, .int .u8 0, .int .u8 0, .int .u8 0, .int .u8 0, .int .u8 0, .int .i64 0]⟩ := rfl
@[simp] theorem Tryz.τ91 : Tryz.τ 91 = some ⟨.func, 1, 8, [.nilFunc]⟩ := rfl
@[simp] theorem Tryz.τ92 : Tryz.τ 92 = some ⟨.slice 25, 1, 24, [.slice none 0 0]⟩ := rfl
@[simp] theorem Tryz.τ93 : Tryz.τ 93 = some ⟨.func, 1, 8, [.nilFunc]⟩ := rfl
@[simp] theorem Tryz.τ94 : Tryz.τ 94 = some ⟨.func, 1, 8, [.nilFunc]⟩ := rfl
@[simp] theorem Tryz.τ95 : Tryz.τ 95 = some ⟨.map 63 4, 1, 8, [.map none]⟩ := rfl
@[simp] theorem Tryz.τ96 : Tryz.τ 96 = some ⟨.func, 1, 8, [.nilFunc]⟩ := rfl
@[simp] theorem Tryz.τ97 : Tryz.τ 97 = some ⟨.func, 1, 8, [.nilFunc]⟩ := rfl
@[simp] theorem Tryz.τ98 : Tryz.τ 98 = some ⟨.map 39 4, 1, 8, [.map none]⟩ := rfl
@[simp] theorem Tryz.τ99 : Tryz.τ 99 = some ⟨.func, 1, 8, [.nilFunc]⟩ := rfl
@[simp] theorem Tryz.τ100 : Tryz.τ 100 = some ⟨.func, 1, 8, [.nilFunc]⟩ := rfl
@[simp] theorem Tryz.τ101 : Tryz.τ 101 = some ⟨.func, 1, 8, [.nilFunc]⟩ := rfl
@[simp] theorem Tryz.τ102 : Tryz.τ 102 = some ⟨.func, 1, 8, [.nilFunc]⟩ := rfl
@[simp] theorem Tryz.τ103 : Tryz.τ 103 = some ⟨.func, 1, 8, [.nilFunc]⟩ := rfl
@[simp] theorem Tryz.τ104 : Tryz.τ 104 = some ⟨.map 3 3, 1, 8, [.map none]⟩ := rfl
@[simp] theorem Tryz.τ105 : Tryz.τ 105 = some ⟨.func, 1, 8, [.nilFunc]⟩ := rfl
@[simp] theorem Tryz.τ106 : Tryz.τ 106 = some ⟨.func, 1, 8, [.nilFunc]⟩ := rfl
@[simp] theorem Tryz.τ107 : Tryz.τ 107 = some ⟨.func, 1, 8, [.nilFunc]⟩ := rfl
@[simp] theorem Tryz.τ108 : Tryz.τ 108 = some ⟨.func, 1, 8, [.nilFunc]⟩ := rfl
@[simp] theorem Tryz.τ109 : Tryz.τ 109 = some ⟨.func, 1, 8, [.nilFunc]⟩ := rfl
@[simp] theorem Tryz.τ110 : Tryz.τ 110 = some ⟨.func, 1, 8, [.nilFunc]⟩ := rfl
@[simp] theorem Tryz.τ111 : Tryz.τ 111 = some ⟨.func, 1, 8, [.nilFunc]⟩ := rfl
@[simp] theorem Tryz.τ112 : Tryz.τ 112 = some ⟨.func, 1, 8, [.nilFunc]⟩ := rfl
@[simp] theorem Tryz.τ113 : Tryz.τ 113 = some ⟨.func, 1, 8, [.nilFunc]⟩ := rfl
@[simp] theorem Tryz.τ114 : Tryz.τ 114 = some ⟨.func, 1, 8, [.nilFunc]⟩ := rfl
@[simp] theorem Tryz.τ115 : Tryz.τ 115 = some ⟨.func, 1, 8, [.nilFunc]⟩ := rfl
@[simp] theorem Tryz.τ116 : Tryz.τ 116 = some ⟨.func, 1, 8, [.nilFunc]⟩ := rfl
@[simp] theorem Tryz.τ117 : Tryz.τ 117 = some ⟨.func, 1, 8, [.nilFunc]⟩ := rfl
@[simp] theorem Tryz.τ118 : Tryz.τ 118 = some ⟨.func, 1, 8, [.nilFunc]⟩ := rfl
@[simp] theorem Tryz.τ119 : Tryz.τ 119 = some ⟨.struct [(0, 3), (1, 3)], 2, 16, [.int .i64 0, .int .i64 0]⟩ := rfl
@[simp] theorem Tryz.τ120 : Tryz.τ 120 = some ⟨.struct [(0, 3), (1, 3)], 2, 16, [.int .i64 0, .int .i64 0]⟩ := rfl
@[simp] theorem Tryz.τ121 : Tryz.τ 121 = some ⟨.func, 1, 8, [.nilFunc]⟩ := rfl
@[simp] theorem Tryz.τ122 : Tryz.τ 122 = some ⟨.func, 1, 8, [.nilFunc]⟩ := rfl
@[simp] theorem Tryz.τ123 : Tryz.τ 123 = some ⟨.func, 1, 8, [.nilFunc]⟩ := rfl
@[simp] theorem Tryz.τ124 : Tryz.τ 124 = some ⟨.func, 1, 8, [.nilFunc]⟩ := rfl
@[simp] theorem Tryz.τ125 : Tryz.τ 125 = some ⟨.slice 23, 1, 24, [.slice none 0 0]⟩ := rfl
@[simp] theorem Tryz.τ126 : Tryz.τ 126 = some ⟨.func, 1, 8, [.nilFunc]⟩ := rfl
@[simp] theorem Tryz.τ127 : Tryz.τ 127 = some ⟨.func, 1, 8, [.nilFunc]⟩ := rfl
@[simp] theorem Tryz.τ128 : Tryz.τ 128 = some ⟨.func, 1, 8, [.nilFunc]⟩ := rfl
@[simp] theorem Tryz.τ129 : Tryz.τ 129 = some ⟨.func, 1, 8, [.nilFunc]⟩ := rfl
@[simp] theorem Tryz.τ130 : Tryz.τ 130 = some ⟨.func, 1, 8, [.nilFunc]⟩ := rfl
@[simp] theorem Tryz.τ131 : Tryz.τ 131 = some ⟨.func, 1, 8, [.nilFunc]⟩ := rfl
@[simp] theorem Tryz.τ132 : Tryz.τ 132 = some ⟨.func, 1, 8, [.nilFunc]⟩ := rfl
@[simp] theorem Tryz.τ133 : Tryz.τ 133 = some ⟨.func, 1, 8, [.nilFunc]⟩ := rfl
@[simp] theorem Tryz.τ134 : Tryz.τ 134 = some ⟨.func, 1, 8, [.nilFunc]⟩ := rfl
@[simp] theorem Tryz.τ135 : Tryz.τ 135 = some ⟨.map 120 23, 1, 8, [.map none]⟩ := rfl
@[simp] theorem Tryz.τ136 : Tryz.τ 136 = some ⟨.map 120 23, 1, 8, [.map none]⟩ := rfl
@[simp] theorem Tryz.τ137 : Tryz.τ 137 = some ⟨.func, 1, 8, [.nilFunc]⟩ := rfl
@[simp] theorem Tryz.τ138 : Tryz.τ 138 = some ⟨.func, 1, 8, [.nilFunc]⟩ := rfl
@[simp] theorem Tryz.τ139 : Tryz.τ 139 = some ⟨.func, 1, 8, [.nilFunc]⟩ := rfl
@[simp] theorem Tryz.τ140 : Tryz.τ 140 = some ⟨.func, 1, 8, [.nilFunc]⟩ := rfl
@[simp] theorem Tryz.τ141 : Tryz.τ 141 = some ⟨.func, 1, 8, [.nilFunc]⟩ := rfl
@[simp] theorem Tryz.τ142 : Tryz.τ 142 = some ⟨.func, 1, 8, [.nilFunc]⟩ := rfl
@[simp] theorem Tryz.τ143 : Tryz.τ 143 = some ⟨.func, 1, 8, [.nilFunc]⟩ := rfl
@[simp] theorem Tryz.τ144 : Tryz.τ 144 = some ⟨.func, 1, 8, [.nilFunc]⟩ := rfl
@[simp] theorem Tryz.τ145 : Tryz.τ 145 = some ⟨.func, 1, 8, [.nilFunc]⟩ := rfl
@[simp] theorem Tryz.τ146 : Tryz.τ 146 = some ⟨.func, 1, 8, [.nilFunc]⟩ := rfl
@[simp] theorem Tryz.τ147 : Tryz.τ 147 = some ⟨.func, 1, 8, [.nilFunc]⟩ := rfl
@[simp] theorem Tryz.τ148 : Tryz.τ 148 = some ⟨.func, 1, 8, [.nilFunc]⟩ := rfl
@[simp] theorem Tryz.τ149 : Tryz.τ 149 = some ⟨.func, 1, 8, [.nilFunc]⟩ := rfl
@[simp] theorem Tryz.τ150 : Tryz.τ 150 = some ⟨.func, 1, 8, [.nilFunc]⟩ := rfl
@[simp] theorem Tryz.τ151 : Tryz.τ 151 = some ⟨.func, 1, 8, [.nilFunc]⟩ := rfl
@[simp] theorem Tryz.τ152 : Tryz.τ 152 = some ⟨.func, 1, 8, [.nilFunc]⟩ := rfl
@[simp] theorem Tryz.τ153 : Tryz.τ 153 = some ⟨.func, 1, 8, [.nilFunc]⟩ := rfl
@[simp] theorem Tryz.τ154 : Tryz.τ 154 = some ⟨.slice 5, 1, 24, [.slice none 0 0]⟩ := rfl
@[simp] theorem Tryz.τ155 : Tryz.τ 155 = some ⟨.func, 1, 8, [.nilFunc]⟩ := rfl
@[simp] theorem Tryz.τ157 : Tryz.τ 157 = some ⟨.func, 1, 8, [.nilFunc]⟩ := rfl
@[simp] theorem Tryz.τ158 : Tryz.τ 158 = some ⟨.func, 1, 8, [.nilFunc]⟩ := rfl
@[simp] theorem Tryz.τ159 : Tryz.τ 159 = some ⟨.func, 1, 8, [.nilFunc]⟩ := rfl
@[simp] theorem Tryz.τ160 : Tryz.τ 160 = some ⟨.func, 1, 8, [.nilFunc]⟩ := rfl
@[simp] theorem Tryz.τ162 : Tryz.τ 162 = some ⟨.func, 1, 8, [.nilFunc]⟩ := rfl
@[simp] theorem Tryz.τ163 : Tryz.τ 163 = some ⟨.func, 1, 8, [.nilFunc]⟩ := rfl
@[simp] theorem Tryz.τ164 : Tryz.τ 164 = some ⟨.func, 1, 8, [.nilFunc]⟩ := rfl
@[simp] theorem Tryz.τ165 : Tryz.τ 165 = some ⟨.func, 1, 8, [.nilFunc]⟩ := rfl
@[simp] theorem Tryz.τ166 : Tryz.τ 166 = some ⟨.func, 1, 8, [.nilFunc]⟩ := rfl
@[simp] theorem Tryz.τ167 : Tryz.τ 167 = some ⟨.func, 1, 8, [.nilFunc]⟩ := rfl
@[simp] theorem Tryz.τ168 : Tryz.τ 168 = some ⟨.func, 1, 8, [.nilFunc]⟩ := rfl
@[simp] theorem Tryz.τ170 : Tryz.τ 170 = some ⟨.func, 1, 8, [.nilFunc]⟩ := rfl
@[simp] theorem Tryz.τ171 : Tryz.τ 171 = some ⟨.func, 1, 8, [.nilFunc]⟩ := rfl
@[simp] theorem Tryz.τ172 : Tryz.τ 172 = some ⟨.func, 1, 8, [.nilFunc]⟩ := rfl
@[simp] theorem Tryz.τ173 : Tryz.τ 173 = some ⟨.slice 120, 1, 24, [.slice none 0 0]⟩ := rfl
@[simp] theorem Tryz.τ174 : Tryz.τ 174 = some ⟨.func, 1, 8, [.nilFunc]⟩ := rfl
@[simp] theorem Tryz.τ175 : Tryz.τ 175 = some ⟨.func, 1, 8, [.nilFunc]⟩ := rfl
@[simp] theorem Tryz.τ176 : Tryz.τ 176 = some ⟨.func, 1, 8, [.nilFunc]⟩ := rfl
@[simp] theorem Tryz.τ177 : Tryz.τ 177 = some ⟨.func, 1, 8, [.nilFunc]⟩ := rfl
@[simp] theorem Tryz.τ178 : Tryz.τ 178 = some ⟨.func, 1, 8, [.nilFunc]⟩ := rfl
@[simp] theorem Tryz.τ179 : Tryz.τ 179 = some ⟨.func, 1, 8, [.nilFunc]⟩ := rfl
@[simp] theorem Tryz.τ180 : Tryz.τ 180 = some ⟨.int .u64, 1, 8, [.int .u64 0]⟩ := rfl
@[simp] theorem Tryz.τ181 : Tryz.τ 181 = some ⟨.func, 1, 8, [.nilFunc]⟩ := rfl
@[simp] theorem Tryz.τ182 : Tryz.τ 182 = some ⟨.func, 1, 8, [.nilFunc]⟩ := rfl
@[simp] theorem Tryz.τ183 : Tryz.τ 183 = some ⟨.func, 1, 8, [.nilFunc]⟩ := rfl
@[simp] theorem Tryz.τ184 : Tryz.τ 184 = some ⟨.func, 1, 8, [.nilFunc]⟩ := rfl
@[simp] theorem Tryz.τ185 : Tryz.τ 185 = some ⟨.func, 1, 8, [.nilFunc]⟩ := rfl
@[simp] theorem Tryz.τ186 : Tryz.τ 186 = some ⟨.array 64 4, 64, 64, [.bool false, .bool false, .bool false, .bool false, .bool false, .bool false, .bool false, .bool false, .bool false, .bool false, .bool false, .bool false, .bool false, .bool false, .bool false, .bool false, .bool false, .bool false, .bool false, .bool false, .bool false, .bool false, .bool false, .bool false, .bool false, .bool false, .bool false, .bool false, .bool false, .bool false, .bool false, .bool false, .bool false, .bool false, .bool false, .bool false, .bool false, .bool false, .bool false, .bool false, .bool false, .bool false, .bool false, .bool false, .bool false, .bool false, .bool false, .bool false, .bool false, .bool false, .bool false, .bool false, .bool false, .bool false, .bool false, .bool false, .bool false, .bool false, .bool false, .bool false, .bool false, .bool false, .bool false, .bool false]⟩ := rfl
@[simp] theorem Tryz.τ187 : Tryz.τ 187 = some ⟨.array 64 4, 64, 64, [.bool false, .bool false, .bool false, .bool false, .bool false, .bool false, .bool false, .bool false, .bool false, .bool false, .bool false, .bool false, .bool false, .bool false, .bool false, .bool false, .bool false, .bool false, .bool false, .bool false, .bool false, .bool false, .bool false, .bool false, .bool false, .bool false, .bool false, .bool false, .bool false, .bool false, .bool false, .bool false, .bool false, .bool false, .bool false, .bool false, .bool false, .bool false, .bool false, .bool false, .bool false, .bool false, .bool false, .bool false, .bool false, .bool false, .bool false, .bool false, .bool false, .bool false, .bool false, .bool false, .bool false, .bool false, .bool false, .bool false, .bool false, .bool false, .bool false, .bool false, .bool false, .bool false, .bool false, .bool false]⟩ := rfl
@[simp] theorem Tryz.τ188 : Tryz.τ 188 = some ⟨.func, 1, 8, [.nilFunc]⟩ := rfl
@[simp] theorem Tryz.τ189 : Tryz.τ 189 = some ⟨.func, 1, 8, [.nilFunc]⟩ := rfl
@[simp] theorem Tryz.τ190 : Tryz.τ 190 = some ⟨.func, 1, 8, [.nilFunc]⟩ := rfl
@[simp] theorem Tryz.τ192 : Tryz.τ 192 = some ⟨.func, 1, 8, [.nilFunc]⟩ := rfl
@[simp] theorem Tryz.τ193 : Tryz.τ 193 = some ⟨.func, 1, 8, [.nilFunc]⟩ := rfl
@[simp] theorem Tryz.τ194 : Tryz.τ 194 = some ⟨.func, 1, 8, [.nilFunc]⟩ := rfl
@[simp] theorem Tryz.τ195 : Tryz.τ 195 = some ⟨.slice 197, 1, 24, [.slice none 0 0]⟩ := rfl
@[simp] theorem Tryz.τ196 : Tryz.τ 196 = some ⟨.struct [(0, 3), (1, 3), (2, 9), (3, 195)], 4, 56, [.int .i64 0, .int .i64 0, .string { data := #[] }, .slice none 0 0]⟩ := rfl
@[simp] theorem Tryz.τ197 : Tryz.τ 197 = some ⟨.struct [(0, 3), (1, 3), (2, 9), (3, 195)], 4, 56, [.int .i64 0, .int .i64 0, .string { data := #[] }, .slice none 0 0]⟩ := rfl
@[simp] theorem Tryz.τ198 : Tryz.τ 198 = some ⟨.func, 1, 8, [.nilFunc]⟩ := rfl
@[simp] theorem Tryz.τ199 : Tryz.τ 199 = some ⟨.func, 1, 8, [.nilFunc]⟩ := rfl
@[simp] theorem Tryz.τ200 : Tryz.τ 200 = some ⟨.slice 212, 1, 24, [.slice none 0 0]⟩ := rfl
@[simp] theorem Tryz.τ201 : Tryz.τ 201 = some ⟨.struct [(0, 200), (1, 26)], 2, 32, [.slice none 0 0, .nilFunc]⟩ := rfl
@[simp] theorem Tryz.τ202 : Tryz.τ 202 = some ⟨.struct [(0, 200), (1, 26)], 2, 32, [.slice none 0 0, .nilFunc]⟩ := rfl
@[simp] theorem Tryz.τ204 : Tryz.τ 204 = some ⟨.func, 1, 8, [.nilFunc]⟩ := rfl
@[simp] theorem Tryz.τ205 : Tryz.τ 205 = some ⟨.ptr 63, 1, 8, [.pointer none]⟩ := rfl
@[simp] theorem Tryz.τ206 : Tryz.τ 206 = some ⟨.ptr 3, 1, 8, [.pointer none]⟩ := rfl
@[simp] theorem Tryz.τ207 : Tryz.τ 207 = some ⟨.func, 1, 8, [.nilFunc]⟩ := rfl
@[simp] theorem Tryz.τ208 : Tryz.τ 208 = some ⟨.func, 1, 8, [.nilFunc]⟩ := rfl
@[simp] theorem Tryz.τ209 : Tryz.τ 209 = some ⟨.struct [(0, 3), (1, 3)], 2, 16, [.int .i64 0, .int .i64 0]⟩ := rfl
@[simp] theorem Tryz.τ210 : Tryz.τ 210 = some ⟨.struct [(0, 3), (1, 3)], 2, 16, [.int .i64 0, .int .i64 0]⟩ := rfl
@[simp] theorem Tryz.τ211 : Tryz.τ 211 = some ⟨.struct [(0, 206), (1, 210)], 3, 24, [.pointer none, .int .i64 0, .int .i64 0]⟩ := rfl
@[simp] theorem Tryz.τ212 : Tryz.τ 212 = some ⟨.struct [(0, 206), (1, 210)], 3, 24, [.pointer none, .int .i64 0, .int .i64 0]⟩ := rfl
@[simp] theorem Tryz.τ213 : Tryz.τ 213 = some ⟨.func, 1, 8, [.nilFunc]⟩ := rfl
@[simp] theorem Tryz.τ214 : Tryz.τ 214 = some ⟨.func, 1, 8, [.nilFunc]⟩ := rfl
@[simp] theorem Tryz.τ215 : Tryz.τ 215 = some ⟨.func, 1, 8, [.nilFunc]⟩ := rfl
@[simp] theorem Tryz.τ216 : Tryz.τ 216 = some ⟨.func, 1, 8, [.nilFunc]⟩ := rfl
@[simp] theorem Tryz.τ217 : Tryz.τ 217 = some ⟨.func, 1, 8, [.nilFunc]⟩ := rfl
@[simp] theorem Tryz.τ218 : Tryz.τ 218 = some ⟨.func, 1, 8, [.nilFunc]⟩ := rfl
@[simp] theorem Tryz.τ219 : Tryz.τ 219 = some ⟨.func, 1, 8, [.nilFunc]⟩ := rfl
@[simp] theorem Tryz.τ220 : Tryz.τ 220 = some ⟨.int .i64, 1, 8, [.int .i64 0]⟩ := rfl
@[simp] theorem Tryz.τ222 : Tryz.τ 222 = some ⟨.func, 1, 8, [.nilFunc]⟩ := rfl
@[simp] theorem Tryz.τ223 : Tryz.τ 223 = some ⟨.func, 1, 8, [.nilFunc]⟩ := rfl
@[simp] theorem Tryz.τ224 : Tryz.τ 224 = some ⟨.func, 1, 8, [.nilFunc]⟩ := rfl
@[simp] theorem Tryz.τ225 : Tryz.τ 225 = some ⟨.func, 1, 8, [.nilFunc]⟩ := rfl
@[simp] theorem Tryz.τ226 : Tryz.τ 226 = some ⟨.func, 1, 8, [.nilFunc]⟩ := rfl
@[simp] theorem Tryz.τ227 : Tryz.τ 227 = some ⟨.func, 1, 8, [.nilFunc]⟩ := rfl
@[simp] theorem Tryz.τ228 : Tryz.τ 228 = some ⟨.int .u32, 1, 4, [.int .u32 0]⟩ := rfl
@[simp] theorem Tryz.τ229 : Tryz.τ 229 = some ⟨.func, 1, 8, [.nilFunc]⟩ := rfl
@[simp] theorem Tryz.τ230 : Tryz.τ 230 = some ⟨.int .u64, 1, 8, [.int .u64 0]⟩ := rfl
@[simp] theorem Tryz.τ231 : Tryz.τ 231 = some ⟨.func, 1, 8, [.nilFunc]⟩ := rfl
@[simp] theorem Tryz.τ232 : Tryz.τ 232 = some ⟨.func, 1, 8, [.nilFunc]⟩ := rfl
@[simp] theorem Tryz.τ233 : Tryz.τ 233 = some ⟨.slice 4, 1, 24, [.slice none 0 0]⟩ := rfl
@[simp] theorem Tryz.τ234 : Tryz.τ 234 = some ⟨.func, 1, 8, [.nilFunc]⟩ := rfl
@[simp] theorem Tryz.τ235 : Tryz.τ 235 = some ⟨.func, 1, 8, [.nilFunc]⟩ := rfl
@[simp] theorem Tryz.τ236 : Tryz.τ 236 = some ⟨.func, 1, 8, [.nilFunc]⟩ := rfl
@[simp] theorem Tryz.τ237 : Tryz.τ 237 = some ⟨.func, 1, 8, [.nilFunc]⟩ := rfl
@[simp] theorem Tryz.τ238 : Tryz.τ 238 = some ⟨.func, 1, 8, [.nilFunc]⟩ := rfl
@[simp] theorem Tryz.τ239 : Tryz.τ 239 = some ⟨.struct [(0, 238)], 1, 8, [.nilFunc]⟩ := rfl
@[simp] theorem Tryz.τ240 : Tryz.τ 240 = some ⟨.struct [(0, 238)], 1, 8, [.nilFunc]⟩ := rfl
@[simp] theorem Tryz.τ241 : Tryz.τ 241 = some ⟨.ptr 283, 1, 8, [.pointer none]⟩ := rfl
@[simp] theorem Tryz.τ242 : Tryz.τ 242 = some ⟨.func, 1, 8, [.nilFunc]⟩ := rfl
@[simp] theorem Tryz.τ243 : Tryz.τ 243 = some ⟨.func, 1, 8, [.nilFunc]⟩ := rfl
@[simp] theorem Tryz.τ244 : Tryz.τ 244 = some ⟨.func, 1, 8, [.nilFunc]⟩ := rfl
@[simp] theorem Tryz.τ245 : Tryz.τ 245 = some ⟨.ptr 41, 1, 8, [.pointer none]⟩ := rfl
@[simp] theorem Tryz.τ246 : Tryz.τ 246 = some ⟨.ptr 43, 1, 8, [.pointer none]⟩ := rfl
@[simp] theorem Tryz.τ247 : Tryz.τ 247 = some ⟨.ptr 45, 1, 8, [.pointer none]⟩ := rfl
@[simp] theorem Tryz.τ248 : Tryz.τ 248 = some ⟨.ptr 47, 1, 8, [.pointer none]⟩ := rfl
@[simp] theorem Tryz.τ249 : Tryz.τ 249 = some ⟨.ptr 49, 1, 8, [.pointer none]⟩ := rfl
@[simp] theorem Tryz.τ250 : Tryz.τ 250 = some ⟨.ptr 51, 1, 8, [.pointer none]⟩ := rfl
@[simp] theorem Tryz.τ251 : Tryz.τ 251 = some ⟨.ptr 53, 1, 8, [.pointer none]⟩ := rfl
@[simp] theorem Tryz.τ252 : Tryz.τ 252 = some ⟨.ptr 55, 1, 8, [.pointer none]⟩ := rfl
@[simp] theorem Tryz.τ253 : Tryz.τ 253 = some ⟨.ptr 57, 1, 8, [.pointer none]⟩ := rfl
@[simp] theorem Tryz.τ254 : Tryz.τ 254 = some ⟨.ptr 59, 1, 8, [.pointer none]⟩ := rfl
@[simp] theorem Tryz.τ255 : Tryz.τ 255 = some ⟨.func, 1, 8, [.nilFunc]⟩ := rfl
@[simp] theorem Tryz.τ256 : Tryz.τ 256 = some ⟨.func, 1, 8, [.nilFunc]⟩ := rfl
@[simp] theorem Tryz.τ257 : Tryz.τ 257 = some ⟨.func, 1, 8, [.nilFunc]⟩ := rfl
@[simp] theorem Tryz.τ258 : Tryz.τ 258 = some ⟨.func, 1, 8, [.nilFunc]⟩ := rfl
@[simp] theorem Tryz.τ259 : Tryz.τ 259 = some ⟨.func, 1, 8, [.nilFunc]⟩ := rfl
@[simp] theorem Tryz.τ260 : Tryz.τ 260 = some ⟨.func, 1, 8, [.nilFunc]⟩ := rfl
@[simp] theorem Tryz.τ261 : Tryz.τ 261 = some ⟨.func, 1, 8, [.nilFunc]⟩ := rfl
@[simp] theorem Tryz.τ262 : Tryz.τ 262 = some ⟨.func, 1, 8, [.nilFunc]⟩ := rfl
@[simp] theorem Tryz.τ263 : Tryz.τ 263 = some ⟨.func, 1, 8, [.nilFunc]⟩ := rfl
@[simp] theorem Tryz.τ264 : Tryz.τ 264 = some ⟨.func, 1, 8, [.nilFunc]⟩ := rfl
@[simp] theorem Tryz.τ265 : Tryz.τ 265 = some ⟨.func, 1, 8, [.nilFunc]⟩ := rfl
@[simp] theorem Tryz.τ266 : Tryz.τ 266 = some ⟨.func, 1, 8, [.nilFunc]⟩ := rfl
@[simp] theorem Tryz.τ267 : Tryz.τ 267 = some ⟨.int .u64, 1, 8, [.int .u64 0]⟩ := rfl
@[simp] theorem Tryz.τ268 : Tryz.τ 268 = some ⟨.func, 1, 8, [.nilFunc]⟩ := rfl
@[simp] theorem Tryz.τ269 : Tryz.τ 269 = some ⟨.func, 1, 8, [.nilFunc]⟩ := rfl
@[simp] theorem Tryz.τ270 : Tryz.τ 270 = some ⟨.func, 1, 8, [.nilFunc]⟩ := rfl
@[simp] theorem Tryz.τ271 : Tryz.τ 271 = some ⟨.func, 1, 8, [.nilFunc]⟩ := rfl
@[simp] theorem Tryz.τ272 : Tryz.τ 272 = some ⟨.func, 1, 8, [.nilFunc]⟩ := rfl
@[simp] theorem Tryz.τ273 : Tryz.τ 273 = some ⟨.func, 1, 8, [.nilFunc]⟩ := rfl
@[simp] theorem Tryz.τ274 : Tryz.τ 274 = some ⟨.func, 1, 8, [.nilFunc]⟩ := rfl
@[simp] theorem Tryz.τ275 : Tryz.τ 275 = some ⟨.func, 1, 8, [.nilFunc]⟩ := rfl
@[simp] theorem Tryz.τ276 : Tryz.τ 276 = some ⟨.slice 154, 1, 24, [.slice none 0 0]⟩ := rfl
@[simp] theorem Tryz.τ277 : Tryz.τ 277 = some ⟨.func, 1, 8, [.nilFunc]⟩ := rfl
@[simp] theorem Tryz.τ278 : Tryz.τ 278 = some ⟨.array 8 228, 8, 32, [.int .u32 0, .int .u32 0, .int .u32 0, .int .u32 0, .int .u32 0, .int .u32 0, .int .u32 0, .int .u32 0]⟩ := rfl
@[simp] theorem Tryz.τ279 : Tryz.τ 279 = some ⟨.func, 1, 8, [.nilFunc]⟩ := rfl
@[simp] theorem Tryz.τ280 : Tryz.τ 280 = some ⟨.ptr 278, 1, 8, [.pointer none]⟩ := rfl
@[simp] theorem Tryz.τ281 : Tryz.τ 281 = some ⟨.func, 1, 8, [.nilFunc]⟩ := rfl
@[simp] theorem Tryz.τ282 : Tryz.τ 282 = some ⟨.array 4 240, 4, 32, [.nilFunc, .nilFunc, .nilFunc, .nilFunc]⟩ := rfl
@[simp] theorem Tryz.τ283 : Tryz.τ 283 = some ⟨.array 4 240, 4, 32, [.nilFunc, .nilFunc, .nilFunc, .nilFunc]⟩ := rfl
@[simp] theorem Tryz.τ284 : Tryz.τ 284 = some ⟨.func, 1, 8, [.nilFunc]⟩ := rfl
@[simp] theorem Tryz.τ285 : Tryz.τ 285 = some ⟨.func, 1, 8, [.nilFunc]⟩ := rfl
@[simp] theorem Tryz.τ286 : Tryz.τ 286 = some ⟨.func, 1, 8, [.nilFunc]⟩ := rfl
@[simp] theorem Tryz.τ287 : Tryz.τ 287 = some ⟨.func, 1, 8, [.nilFunc]⟩ := rfl
@[simp] theorem Tryz.τ288 : Tryz.τ 288 = some ⟨.func, 1, 8, [.nilFunc]⟩ := rfl
@[simp] theorem Tryz.τ289 : Tryz.τ 289 = some ⟨.func, 1, 8, [.nilFunc]⟩ := rfl
@[simp] theorem Tryz.τ290 : Tryz.τ 290 = some ⟨.func, 1, 8, [.nilFunc]⟩ := rfl
@[simp] theorem Tryz.τ291 : Tryz.τ 291 = some ⟨.ptr 267, 1, 8, [.pointer none]⟩ := rfl
@[simp] theorem Tryz.τ293 : Tryz.τ 293 = some ⟨.func, 1, 8, [.nilFunc]⟩ := rfl
@[simp] theorem Tryz.τ294 : Tryz.τ 294 = some ⟨.func, 1, 8, [.nilFunc]⟩ := rfl
@[simp] theorem Tryz.τ295 : Tryz.τ 295 = some ⟨.func, 1, 8, [.nilFunc]⟩ := rfl
@[simp] theorem Tryz.τ296 : Tryz.τ 296 = some ⟨.func, 1, 8, [.nilFunc]⟩ := rfl
@[simp] theorem Tryz.τ297 : Tryz.τ 297 = some ⟨.array 16 228, 16, 64, [.int .u32 0, .int .u32 0, .int .u32 0, .int .u32 0, .int .u32 0, .int .u32 0, .int .u32 0, .int .u32 0, .int .u32 0, .int .u32 0, .int .u32 0, .int .u32 0, .int .u32 0, .int .u32 0, .int .u32 0, .int .u32 0]⟩ := rfl
@[simp] theorem Tryz.τ298 : Tryz.τ 298 = some ⟨.array 16 228, 16, 64, [.int .u32 0, .int .u32 0, .int .u32 0, .int .u32 0, .int .u32 0, .int .u32 0, .int .u32 0, .int .u32 0, .int .u32 0, .int .u32 0, .int .u32 0, .int .u32 0, .int .u32 0, .int .u32 0, .int .u32 0, .int .u32 0]⟩ := rfl
@[simp] theorem Tryz.τ299 : Tryz.τ 299 = some ⟨.slice 228, 1, 24, [.slice none 0 0]⟩ := rfl
@[simp] theorem Tryz.τ300 : Tryz.τ 300 = some ⟨.func, 1, 8, [.nilFunc]⟩ := rfl
@[simp] theorem Tryz.τ301 : Tryz.τ 301 = some ⟨.array 16 5, 16, 16, [.int .u8 0, .int .u8 0, .int .u8 0, .int .u8 0, .int .u8 0, .int .u8 0, .int .u8 0, .int .u8 0, .int .u8 0, .int .u8 0, .int .u8 0, .int .u8 0, .int .u8 0, .int .u8 0, .int .u8 0, .int .u8 0]⟩ := rfl
@[simp] theorem Tryz.τ302 : Tryz.τ 302 = some ⟨.array 10 301, 160, 160, [.int .u8 0, .int .u8 0, .int .u8 0, .int .u8 0, .int .u8 0, .int .u8 0, .int .u8 0, .int .u8 0, .int .u8 0, .int .u8 0, .int .u8 0, .int .u8 0, .int .u8 0, .int .u8 0, .int .u8 0, .int .u8 0, .int .u8 0, .int .u8 0, .int .u8 0, .int .u8 0, .int .u8 0, .int .u8 0, .int .u8 0, .int .u8 0, .int .u8 0, .int .u8 0, .int .u8 0, .int .u8 0, .int .u8 0, .int .u8 0, .int .u8 0, .int .u8 0, .int .u8 0, .int .u8 0, .int .u8 0, .int .u8 0, .int .u8 0, .int .u8 0, .int .u8 0, .int .u8 0, .int .u8 0, .int .u8 0, .int .u8 0, .int .u8 0, .int .u8 0, .int .u8 0, .int .u8 0, .int .u8 0, .int .u8 0, .int .u8 0, .int .u8 0, .int .u8 0, .int .u8 0, .int .u8 0, .int .u8 0, .int .u8 0, .int .u8 0, .int .u8 0, .int .u8 0, .int .u8 0, .int .u8 0, .int .u8 0, .int .u8 0, .int .u8 0, .int .u8 0, .int .u8 0, .int .u8 0, .int .u8 0, .int .u8 0, .int .u8 0, .int .u8 0, .int .u8 0, .int .u8 0, .int .u8 0, .int .u8 0, .int .u8 0, .int .u8 0, .int .u8 0, .int .u8 0, .int .u8 0, .int .u8 0, .int .u8 0, .int .u8 0, .int .u8 0, .int .u8 0, .int .u8 0, .int .u8 0, .int .u8 0, .int .u8 0, .int .u8 0, .int .u8 0, .int .u8 0, .int .u8 0, .int .u8 0, .int .u8 0, .int .u8 0, .int .u8 0, .int .u8 0, .int .u8 0, .int .u8 0, .int .u8 0, .int .u8 0, .int .u8 0, .int .u8 0, .int .u8 0, .int .u8 0, .int .u8 0, .int .u8 0, .int .u8 0, .int .u8 0, .int .u8 0, .int .u8 0, .int .u8 0, .int .u8 0, .int .u8 0, .int .u8 0, .int .u8 0, .int .u8 0, .int .u8 0, .int .u8 0, .int .u8 0, .int .u8 0, .int .u8 0, .int .u8 0, .int .u8 0, .int .u8 0, .int .u8 0, .int .u8 0, .int .u8 0, .int .u8 0, .int .u8 0, .int .u8 0, .int .u8 0, .int .u8 0, .int .u8 0, .int .u8 0, .int .u8 0, .int .u8 0, .int .u8 0, .int .u8 0, .int .u8 0, .int .u8 0, .int .u8 0, .int .u8 0, .int .u8 0, .int .u8 0, .int .u8 0, .int .u8 0, .int .u8 0, .int .u8 0, .int .u8 0, .int .u8 0, .int .u8 0, .int .u8 0, .int .u8 0, .int .u8 0, .int .u8 0, .int .u8 0, .int .u8 0, .int .u8 0]⟩ := rfl
@[simp] theorem Tryz.τ303 : Tryz.τ 303 = some ⟨.array 4 4, 4, 4, [.bool false, .bool false, .bool false, .bool false]⟩ := rfl
@[simp] theorem Tryz.τ304 : Tryz.τ 304 = some ⟨.func, 1, 8, [.nilFunc]⟩ := rfl
@[simp] theorem Tryz.τ305 : Tryz.τ 305 = some ⟨.func, 1, 8, [.nilFunc]⟩ := rfl
@[simp] theorem Tryz.τ306 : Tryz.τ 306 = some ⟨.func, 1, 8, [.nilFunc]⟩ := rfl
@[simp] theorem Tryz.τ307 : Tryz.τ 307 = some ⟨.func, 1, 8, [.nilFunc]⟩ := rfl
@[simp] theorem Tryz.τ308 : Tryz.τ 308 = some ⟨.func, 1, 8, [.nilFunc]⟩ := rfl
@[simp] theorem Tryz.τ309 : Tryz.τ 309 = some ⟨.func, 1, 8, [.nilFunc]⟩ := rfl
@[simp] theorem Tryz.τ310 : Tryz.τ 310 = some ⟨.func, 1, 8, [.nilFunc]⟩ := rfl
@[simp] theorem Tryz.τ311 : Tryz.τ 311 = some ⟨.ptr 298, 1, 8, [.pointer none]⟩ := rfl
@[simp] theorem Tryz.τ312 : Tryz.τ 312 = some ⟨.func, 1, 8, [.nilFunc]⟩ := rfl
@[simp] theorem Tryz.τ313 : Tryz.τ 313 = some ⟨.array 16 3, 16, 128, [.int .i64 0, .int .i64 0, .int .i64 0, .int .i64 0, .int .i64 0, .int .i64 0, .int .i64 0, .int .i64 0, .int .i64 0, .int .i64 0, .int .i64 0, .int .i64 0, .int .i64 0, .int .i64 0, .int .i64 0, .int .i64 0]⟩ := rfl
@[simp] theorem Tryz.τ314 : Tryz.τ 314 = some ⟨.array 10 313, 160, 1280, [.int .i64 0, .int .i64 0, .int .i64 0, .int .i64 0, .int .i64 0, .int .i64 0, .int .i64 0, .int .i64 0, .int .i64 0, .int .i64 0, .int .i64 0, .int .i64 0, .int .i64 0, .int .i64 0, .int .i64 0, .int .i64 0, .int .i64 0, .int .i64 0, .int .i64 0, .int .i64 0, .int .i64 0, .int .i64 0, .int .i64 0, .int .i64 0, .int .i64 0, .int .i64 0, .int .i64 0, .int .i64 0, .int .i64 0, .int .i64 0, .int .i64 0, .int .i64 0, .int .i64 0, .int .i64 0, .int .i64 0, .int .i64 0, .int .i64 0, .int .i64 0, .int .i64 0, .int .i64 0, .int .i64 0, .int .i64 0, .int .i64 0, .int .i64 0, .int .i64 0, .int .i64 0, .int .i64 0, .int .i64 0, .int .i64 0, .int .i64 0, .int .i64 0, .int .i64 0, .int .i64 0, .int .i64 0, .int .i64 0, .int .i64 0, .int .i64 0, .int .i64 0, .int .i64 0, .int .i64 0, .int .i64 0, .int .i64 0, .int .i64 0, .int .i64 0, .int .i64 0, .int .i64 0, .int .i64 0, .int .i64 0, .int .i64 0, .int .i64 0, .int .i64 0, .int .i64 0, .int .i64 0, .int .i64 0, .int .i64 0, .int .i64 0, .int .i64 0, .int .i64 0, .int .i64 0, .int .i64 0, .int .i64 0, .int .i64 0, .int .i64 0, .int .i64 0, .int .i64 0, .int .i64 0, .int .i64 0, .int .i64 0, .int .i64 0, .int .i64 0, .int .i64 0, .int .i64 0, .int .i64 0, .int .i64 0, .int .i64 0, .int .i64 0, .int .i64 0, .int .i64 0, .int .i64 0, .int .i64 0, .int .i64 0, .int .i64 0, .int .i64 0, .int .i64 0, .int .i64 0, .int .i64 0, .int .i64 0, .int .i64 0, .int .i64 0, .int .i64 0, .int .i64 0, .int .i64 0, .int .i64 0, .int .i64 0, .int .i64 0, .int .i64 0, .int .i64 0, .int .i64 0, .int .i64 0, .int .i64 0, .int .i64 0, .int .i64 0, .int .i64 0, .int .i64 0, .int .i64 0, .int .i64 0, .int .i64 0, .int .i64 0, .int .i64 0, .int .i64 0, .int .i64 0, .int .i64 0, .int .i64 0, .int .i64 0, .int .i64 0, .int .i64 0, .int .i64 0, .int .i64 0, .int .i64 0, .int .i64 0, .int .i64 0, .int .i64 0, .int .i64 0, .int .i64 0, .int .i64 0, .int .i64 0, .int .i64 0, .int .i64 0, .int .i64 0, .int .i64 0, .int .i64 0, .int .i64 0, .int .i64 0, .int .i64 0, .int .i64 0, .int .i64 0, .int .i64 0, .int .i64 0, .int .i64 0, .int .i64 0]⟩ := rfl
@[simp] theorem Tryz.τ315 : Tryz.τ 315 = some ⟨.func, 1, 8, [.nilFunc]⟩ := rfl
@[simp] theorem Tryz.τ316 : Tryz.τ 316 = some ⟨.array 4 3, 4, 32, [.int .i64 0, .int .i64 0, .int .i64 0, .int .i64 0]⟩ := rfl
@[simp] theorem Tryz.τ318 : Tryz.τ 318 = some ⟨.func, 1, 8, [.nilFunc]⟩ := rfl
@[simp] theorem Tryz.τ319 : Tryz.τ 319 = some ⟨.func, 1, 8, [.nilFunc]⟩ := rfl
@[simp] theorem Tryz.τ320 : Tryz.τ 320 = some ⟨.struct [(0, 17), (1, 17), (2, 17), (3, 9)], 4, 40, [.pointer none, .pointer none, .pointer none, .string { data := #[] }]⟩ := rfl
@[simp] theorem Tryz.τ321 : Tryz.τ 321 = some ⟨.struct [(0, 17), (1, 17), (2, 17), (3, 9)], 4, 40, [.pointer none, .pointer none, .pointer none, .string { data := #[] }]⟩ := rfl
@[simp] theorem Tryz.τ322 : Tryz.τ 322 = some ⟨.array 0 16, 0, 0, []⟩ := rfl
@[simp] theorem Tryz.τ323 : Tryz.τ 323 = some ⟨.struct [(0, 322)], 0, 0, []⟩ := rfl
@[simp] theorem Tryz.τ324 : Tryz.τ 324 = some ⟨.struct [(0, 322)], 0, 0, []⟩ := rfl
@[simp] theorem Tryz.τ325 : Tryz.τ 325 = some ⟨.func, 1, 8, [.nilFunc]⟩ := rfl
@[simp] theorem Tryz.τ326 : Tryz.τ 326 = some ⟨.int .u8, 1, 1, [.int .u8 0]⟩ := rfl
@[simp] theorem Tryz.τ327 : Tryz.τ 327 = some ⟨.int .u8, 1, 1, [.int .u8 0]⟩ := rfl
@[simp] theorem Tryz.τ328 : Tryz.τ 328 = some ⟨.func, 1, 8, [.nilFunc]⟩ := rfl
@[simp] theorem Tryz.τ329 : Tryz.τ 329 = some ⟨.ptr 5, 1, 8, [.pointer none]⟩ := rfl
@[simp] theorem Tryz.τ330 : Tryz.τ 330 = some ⟨.int .i32, 1, 4, [.int .i32 0]⟩ := rfl
@[simp] theorem Tryz.τ331 : Tryz.τ 331 = some ⟨.int .i32, 1, 4, [.int .i32 0]⟩ := rfl
@[simp] theorem Tryz.τ332 : Tryz.τ 332 = some ⟨.struct [(0, 12), (1, 12), (2, 228), (3, 326), (4, 5), (5, 5), (6, 327), (7, 328), (8, 329), (9, 330), (10, 331)], 11, 48, [.int .u64 0, .int .u64 0, .int .u32 0, .int .u8 0, .int .u8 0, .int .u8 0, .int .u8 0, .nilFunc, .pointer none, .int .i32 0, .int .i32 0]⟩ := rfl
@[simp] theorem Tryz.τ333 : Tryz.τ 333 = some ⟨.struct [(0, 12), (1, 12), (2, 228), (3, 326), (4, 5), (5, 5), (6, 327), (7, 328), (8, 329), (9, 330), (10, 331)], 11, 48, [.int .u64 0, .int .u64 0, .int .u32 0, .int .u8 0, .int .u8 0, .int .u8 0, .int .u8 0, .nilFunc, .pointer none, .int .i32 0, .int .i32 0]⟩ := rfl
set_option maxRecDepth 100000 in
def Tryz.tE (n : Nat) : TE := (Tryz.tL[n]?.join).getD ⟨.bool, 1, 1, []⟩
theorem Tryz.ty1 : TyOk Tryz.prog 1 (Tryz.tE 1) := ⟨⟨Tryz.t1, _, by kernel_rfl, rfl, rfl, rfl, rfl, rfl, rfl⟩, ⟨_, Tryz.underlying1, ⟨_, _, _, rfl⟩⟩⟩
theorem Tryz.ty2 : TyOk Tryz.prog 2 (Tryz.tE 2) := ⟨⟨Tryz.t2, _, by kernel_rfl, rfl, rfl, rfl, rfl, rfl, rfl⟩, ⟨_, Tryz.underlying2, rfl⟩⟩
theorem Tryz.ty3 : TyOk Tryz.prog 3 (Tryz.tE 3) := ⟨⟨Tryz.t3, _, by kernel_rfl, rfl, rfl, rfl, rfl, rfl, rfl⟩, ⟨_, Tryz.underlying3, rfl⟩⟩
theorem Tryz.ty4 : TyOk Tryz.prog 4 (Tryz.tE 4) := ⟨⟨Tryz.t4, _, by kernel_rfl, rfl, rfl, rfl, rfl, rfl, rfl⟩, ⟨_, Tryz.underlying4, rfl⟩⟩
theorem Tryz.ty5 : TyOk Tryz.prog 5 (Tryz.tE 5) := ⟨⟨Tryz.t5, _, by kernel_rfl, rfl, rfl, rfl, rfl, rfl, rfl⟩, ⟨_, Tryz.underlying5, rfl⟩⟩
theorem Tryz.ty6 : TyOk Tryz.prog 6 (Tryz.tE 6) := ⟨⟨Tryz.t6, _, by kernel_rfl, rfl, rfl, rfl, rfl, rfl, rfl⟩, ⟨_, Tryz.underlying6, rfl⟩⟩
theorem Tryz.ty7 : TyOk Tryz.prog 7 (Tryz.tE 7) := ⟨⟨Tryz.t7, _, by kernel_rfl, rfl, rfl, rfl, rfl, rfl, rfl⟩, ⟨_, Tryz.underlying7, ⟨_, rfl, rfl⟩⟩⟩
theorem Tryz.ty8 : TyOk Tryz.prog 8 (Tryz.tE 8) := ⟨⟨Tryz.t8, _, by kernel_rfl, rfl, rfl, rfl, rfl, rfl, rfl⟩, ⟨_, Tryz.underlying8, ⟨_, rfl, rfl⟩⟩⟩
theorem Tryz.ty9 : TyOk Tryz.prog 9 (Tryz.tE 9) := ⟨⟨Tryz.t9, _, by kernel_rfl, rfl, rfl, rfl, rfl, rfl, rfl⟩, ⟨_, Tryz.underlying9, rfl⟩⟩
theorem Tryz.ty10 : TyOk Tryz.prog 10 (Tryz.tE 10) := ⟨⟨Tryz.t10, _, by kernel_rfl, rfl, rfl, rfl, rfl, rfl, rfl⟩, ⟨_, Tryz.underlying10, rfl⟩⟩
theorem Tryz.ty11 : TyOk Tryz.prog 11 (Tryz.tE 11) := ⟨⟨Tryz.t11, _, by kernel_rfl, rfl, rfl, rfl, rfl, rfl, rfl⟩, ⟨_, Tryz.underlying11, rfl⟩⟩
theorem Tryz.ty12 : TyOk Tryz.prog 12 (Tryz.tE 12) := ⟨⟨Tryz.t12, _, by kernel_rfl, rfl, rfl, rfl, rfl, rfl, rfl⟩, ⟨_, Tryz.underlying12, rfl⟩⟩
theorem Tryz.ty13 : TyOk Tryz.prog 13 (Tryz.tE 13) := ⟨⟨Tryz.t13, _, by kernel_rfl, rfl, rfl, rfl, rfl, rfl, rfl⟩, ⟨_, Tryz.underlying13, ⟨_, rfl, rfl⟩⟩⟩
theorem Tryz.ty14 : TyOk Tryz.prog 14 (Tryz.tE 14) := ⟨⟨Tryz.t14, _, by kernel_rfl, rfl, rfl, rfl, rfl, rfl, rfl⟩, ⟨_, Tryz.underlying14, ⟨_, rfl, rfl⟩⟩⟩
theorem Tryz.ty15 : TyOk Tryz.prog 15 (Tryz.tE 15) := ⟨⟨Tryz.t15, _, by kernel_rfl, rfl, rfl, rfl, rfl, rfl, rfl⟩, ⟨_, Tryz.underlying15, rfl⟩⟩
theorem Tryz.ty16 : TyOk Tryz.prog 16 (Tryz.tE 16) := ⟨⟨Tryz.t16, _, by kernel_rfl, rfl, rfl, rfl, rfl, rfl, rfl⟩, ⟨_, Tryz.underlying16, rfl⟩⟩
theorem Tryz.ty17 : TyOk Tryz.prog 17 (Tryz.tE 17) := ⟨⟨Tryz.t17, _, by kernel_rfl, rfl, rfl, rfl, rfl, rfl, rfl⟩, ⟨_, Tryz.underlying17, rfl⟩⟩
theorem Tryz.ty18 : TyOk Tryz.prog 18 (Tryz.tE 18) := ⟨⟨Tryz.t18, _, by kernel_rfl, rfl, rfl, rfl, rfl, rfl, rfl⟩, ⟨_, Tryz.underlying18, ⟨_, rfl, rfl⟩⟩⟩
theorem Tryz.ty19 : TyOk Tryz.prog 19 (Tryz.tE 19) := ⟨⟨Tryz.t19, _, by kernel_rfl, rfl, rfl, rfl, rfl, rfl, rfl⟩, ⟨_, Tryz.underlying19, ⟨_, rfl, rfl⟩⟩⟩
theorem Tryz.ty20 : TyOk Tryz.prog 20 (Tryz.tE 20) := ⟨⟨Tryz.t20, _, by kernel_rfl, rfl, rfl, rfl, rfl, rfl, rfl⟩, ⟨_, Tryz.underlying20, ⟨_, rfl⟩⟩⟩
theorem Tryz.ty21 : TyOk Tryz.prog 21 (Tryz.tE 21) := ⟨⟨Tryz.t21, _, by kernel_rfl, rfl, rfl, rfl, rfl, rfl, rfl⟩, ⟨_, Tryz.underlying21, rfl⟩⟩
theorem Tryz.ty22 : TyOk Tryz.prog 22 (Tryz.tE 22) := ⟨⟨Tryz.t22, _, by kernel_rfl, rfl, rfl, rfl, rfl, rfl, rfl⟩, ⟨_, Tryz.underlying22, rfl⟩⟩
theorem Tryz.ty23 : TyOk Tryz.prog 23 (Tryz.tE 23) := ⟨⟨Tryz.t23, _, by kernel_rfl, rfl, rfl, rfl, rfl, rfl, rfl⟩, ⟨_, Tryz.underlying23, rfl⟩⟩
theorem Tryz.ty24 : TyOk Tryz.prog 24 (Tryz.tE 24) := ⟨⟨Tryz.t24, _, by kernel_rfl, rfl, rfl, rfl, rfl, rfl, rfl⟩, ⟨_, Tryz.underlying24, ⟨_, rfl, rfl⟩⟩⟩
theorem Tryz.ty25 : TyOk Tryz.prog 25 (Tryz.tE 25) := ⟨⟨Tryz.t25, _, by kernel_rfl, rfl, rfl, rfl, rfl, rfl, rfl⟩, ⟨_, Tryz.underlying25, ⟨_, rfl, rfl⟩⟩⟩
theorem Tryz.ty26 : TyOk Tryz.prog 26 (Tryz.tE 26) := ⟨⟨Tryz.t26, _, by kernel_rfl, rfl, rfl, rfl, rfl, rfl, rfl⟩, ⟨_, Tryz.underlying26, ⟨_, _, _, rfl⟩⟩⟩
theorem Tryz.ty27 : TyOk Tryz.prog 27 (Tryz.tE 27) := ⟨⟨Tryz.t27, _, by kernel_rfl, rfl, rfl, rfl, rfl, rfl, rfl⟩, ⟨_, Tryz.underlying27, ⟨_, _, _, rfl⟩⟩⟩
theorem Tryz.ty28 : TyOk Tryz.prog 28 (Tryz.tE 28) := ⟨⟨Tryz.t28, _, by kernel_rfl, rfl, rfl, rfl, rfl, rfl, rfl⟩, ⟨_, Tryz.underlying28, ⟨_, _, _, rfl⟩⟩⟩
theorem Tryz.ty29 : TyOk Tryz.prog 29 (Tryz.tE 29) := ⟨⟨Tryz.t29, _, by kernel_rfl, rfl, rfl, rfl, rfl, rfl, rfl⟩, ⟨_, Tryz.underlying29, rfl⟩⟩
theorem Tryz.ty31 : TyOk Tryz.prog 31 (Tryz.tE 31) := ⟨⟨Tryz.t31, _, by kernel_rfl, rfl, rfl, rfl, rfl, rfl, rfl⟩, ⟨_, Tryz.underlying31, ⟨_, _, _, rfl⟩⟩⟩
theorem Tryz.ty32 : TyOk Tryz.prog 32 (Tryz.tE 32) := ⟨⟨Tryz.t32, _, by kernel_rfl, rfl, rfl, rfl, rfl, rfl, rfl⟩, ⟨_, Tryz.underlying32, rfl⟩⟩
theorem Tryz.ty33 : TyOk Tryz.prog 33 (Tryz.tE 33) := ⟨⟨Tryz.t33, _, by kernel_rfl, rfl, rfl, rfl, rfl, rfl, rfl⟩, ⟨_, Tryz.underlying33, ⟨_, _, _, rfl⟩⟩⟩
theorem Tryz.ty34 : TyOk Tryz.prog 34 (Tryz.tE 34) := ⟨⟨Tryz.t34, _, by kernel_rfl, rfl, rfl, rfl, rfl, rfl, rfl⟩, ⟨_, Tryz.underlying34, ⟨_, _, _, rfl⟩⟩⟩
theorem Tryz.ty35 : TyOk Tryz.prog 35 (Tryz.tE 35) := ⟨⟨Tryz.t35, _, by kernel_rfl, rfl, rfl, rfl, rfl, rfl, rfl⟩, ⟨_, Tryz.underlying35, ⟨_, _, _, rfl⟩⟩⟩
theorem Tryz.ty36 : TyOk Tryz.prog 36 (Tryz.tE 36) := ⟨⟨Tryz.t36, _, by kernel_rfl, rfl, rfl, rfl, rfl, rfl, rfl⟩, ⟨_, Tryz.underlying36, rfl⟩⟩
theorem Tryz.ty37 : TyOk Tryz.prog 37 (Tryz.tE 37) := ⟨⟨Tryz.t37, _, by kernel_rfl, rfl, rfl, rfl, rfl, rfl, rfl⟩, ⟨_, Tryz.underlying37, ⟨_, _, _, rfl⟩⟩⟩
theorem Tryz.ty38 : TyOk Tryz.prog 38 (Tryz.tE 38) := ⟨⟨Tryz.t38, _, by kernel_rfl, rfl, rfl, rfl, rfl, rfl, rfl⟩, ⟨_, Tryz.underlying38, ⟨_, rfl, rfl⟩⟩⟩
theorem Tryz.ty39 : TyOk Tryz.prog 39 (Tryz.tE 39) := ⟨⟨Tryz.t39, _, by kernel_rfl, rfl, rfl, rfl, rfl, rfl, rfl⟩, ⟨_, Tryz.underlying39, ⟨_, rfl, rfl⟩⟩⟩
theorem Tryz.ty40 : TyOk Tryz.prog 40 (Tryz.tE 40) := ⟨⟨Tryz.t40, _, by kernel_rfl, rfl, rfl, rfl, rfl, rfl, rfl⟩, ⟨_, Tryz.underlying40, ⟨_, rfl, rfl⟩⟩⟩
theorem Tryz.ty41 : TyOk Tryz.prog 41 (Tryz.tE 41) := ⟨⟨Tryz.t41, _, by kernel_rfl, rfl, rfl, rfl, rfl, rfl, rfl⟩, ⟨_, Tryz.underlying41, ⟨_, rfl, rfl⟩⟩⟩
theorem Tryz.ty42 : TyOk Tryz.prog 42 (Tryz.tE 42) := ⟨⟨Tryz.t42, _, by kernel_rfl, rfl, rfl, rfl, rfl, rfl, rfl⟩, ⟨_, Tryz.underlying42, ⟨_, rfl, rfl⟩⟩⟩
theorem Tryz.ty43 : TyOk Tryz.prog 43 (Tryz.tE 43) := ⟨⟨Tryz.t43, _, by kernel_rfl, rfl, rfl, rfl, rfl, rfl, rfl⟩, ⟨_, Tryz.underlying43, ⟨_, rfl, rfl⟩⟩⟩
theorem Tryz.ty44 : TyOk Tryz.prog 44 (Tryz.tE 44) := ⟨⟨Tryz.t44, _, by kernel_rfl, rfl, rfl, rfl, rfl, rfl, rfl⟩, ⟨_, Tryz.underlying44, ⟨_, rfl, rfl⟩⟩⟩
theorem Tryz.ty45 : TyOk Tryz.prog 45 (Tryz.tE 45) := ⟨⟨Tryz.t45, _, by kernel_rfl, rfl, rfl, rfl, rfl, rfl, rfl⟩, ⟨_, Tryz.underlying45, ⟨_, rfl, rfl⟩⟩⟩
theorem Tryz.ty46 : TyOk Tryz.prog 46 (Tryz.tE 46) := ⟨⟨Tryz.t46, _, by kernel_rfl, rfl, rfl, rfl, rfl, rfl, rfl⟩, ⟨_, Tryz.underlying46, ⟨_, rfl, rfl⟩⟩⟩
theorem Tryz.ty47 : TyOk Tryz.prog 47 (Tryz.tE 47) := ⟨⟨Tryz.t47, _, by kernel_rfl, rfl, rfl, rfl, rfl, rfl, rfl⟩, ⟨_, Tryz.underlying47, ⟨_, rfl, rfl⟩⟩⟩
theorem Tryz.ty48 : TyOk Tryz.prog 48 (Tryz.tE 48) := ⟨⟨Tryz.t48, _, by kernel_rfl, rfl, rfl, rfl, rfl, rfl, rfl⟩, ⟨_, Tryz.underlying48, ⟨_, rfl, rfl⟩⟩⟩
theorem Tryz.ty49 : TyOk Tryz.prog 49 (Tryz.tE 49) := ⟨⟨Tryz.t49, _, by kernel_rfl, rfl, rfl, rfl, rfl, rfl, rfl⟩, ⟨_, Tryz.underlying49, ⟨_, rfl, rfl⟩⟩⟩
theorem Tryz.ty50 : TyOk Tryz.prog 50 (Tryz.tE 50) := ⟨⟨Tryz.t50, _, by kernel_rfl, rfl, rfl, rfl, rfl, rfl, rfl⟩, ⟨_, Tryz.underlying50, ⟨_, rfl, rfl⟩⟩⟩
theorem Tryz.ty51 : TyOk Tryz.prog 51 (Tryz.tE 51) := ⟨⟨Tryz.t51, _, by kernel_rfl, rfl, rfl, rfl, rfl, rfl, rfl⟩, ⟨_, Tryz.underlying51, ⟨_, rfl, rfl⟩⟩⟩
theorem Tryz.ty52 : TyOk Tryz.prog 52 (Tryz.tE 52) := ⟨⟨Tryz.t52, _, by kernel_rfl, rfl, rfl, rfl, rfl, rfl, rfl⟩, ⟨_, Tryz.underlying52, ⟨_, rfl, rfl⟩⟩⟩
theorem Tryz.ty53 : TyOk Tryz.prog 53 (Tryz.tE 53) := ⟨⟨Tryz.t53, _, by kernel_rfl, rfl, rfl, rfl, rfl, rfl, rfl⟩, ⟨_, Tryz.underlying53, ⟨_, rfl, rfl⟩⟩⟩
theorem Tryz.ty54 : TyOk Tryz.prog 54 (Tryz.tE 54) := ⟨⟨Tryz.t54, _, by kernel_rfl, rfl, rfl, rfl, rfl, rfl, rfl⟩, ⟨_, Tryz.underlying54, ⟨_, rfl, rfl⟩⟩⟩
theorem Tryz.ty55 : TyOk Tryz.prog 55 (Tryz.tE 55) := ⟨⟨Tryz.t55, _, by kernel_rfl, rfl, rfl, rfl, rfl, rfl, rfl⟩, ⟨_, Tryz.underlying55, ⟨_, rfl, rfl⟩⟩⟩
theorem Tryz.ty56 : TyOk Tryz.prog 56 (Tryz.tE 56) := ⟨⟨Tryz.t56, _, by kernel_rfl, rfl, rfl, rfl, rfl, rfl, rfl⟩, ⟨_, Tryz.underlying56, ⟨_, rfl, rfl⟩⟩⟩
theorem Tryz.ty57 : TyOk Tryz.prog 57 (Tryz.tE 57) := ⟨⟨Tryz.t57, _, by kernel_rfl, rfl, rfl, rfl, rfl, rfl, rfl⟩, ⟨_, Tryz.underlying57, ⟨_, rfl, rfl⟩⟩⟩
theorem Tryz.ty58 : TyOk Tryz.prog 58 (Tryz.tE 58) := ⟨⟨Tryz.t58, _, by kernel_rfl, rfl, rfl, rfl, rfl, rfl, rfl⟩, ⟨_, Tryz.underlying58, ⟨_, rfl, rfl⟩⟩⟩
theorem Tryz.ty59 : TyOk Tryz.prog 59 (Tryz.tE 59) := ⟨⟨Tryz.t59, _, by kernel_rfl, rfl, rfl, rfl, rfl, rfl, rfl⟩, ⟨_, Tryz.underlying59, ⟨_, rfl, rfl⟩⟩⟩
theorem Tryz.ty60 : TyOk Tryz.prog 60 (Tryz.tE 60) := ⟨⟨Tryz.t60, _, by kernel_rfl, rfl, rfl, rfl, rfl, rfl, rfl⟩, ⟨_, Tryz.underlying60, ⟨_, rfl, rfl⟩⟩⟩
theorem Tryz.ty61 : TyOk Tryz.prog 61 (Tryz.tE 61) := ⟨⟨Tryz.t61, _, by kernel_rfl, rfl, rfl, rfl, rfl, rfl, rfl⟩, ⟨_, Tryz.underlying61, ⟨_, rfl, rfl⟩⟩⟩
theorem Tryz.ty62 : TyOk Tryz.prog 62 (Tryz.tE 62) := ⟨⟨Tryz.t62, _, by kernel_rfl, rfl, rfl, rfl, rfl, rfl, rfl⟩, ⟨_, Tryz.underlying62, ⟨_, rfl, rfl⟩⟩⟩
theorem Tryz.ty63 : TyOk Tryz.prog 63 (Tryz.tE 63) := ⟨⟨Tryz.t63, _, by kernel_rfl, rfl, rfl, rfl, rfl, rfl, rfl⟩, ⟨_, Tryz.underlying63, ⟨_, rfl, rfl⟩⟩⟩
theorem Tryz.ty64 : TyOk Tryz.prog 64 (Tryz.tE 64) := ⟨⟨Tryz.t64, _, by kernel_rfl, rfl, rfl, rfl, rfl, rfl, rfl⟩, ⟨_, Tryz.underlying64, rfl⟩⟩
theorem Tryz.ty65 : TyOk Tryz.prog 65 (Tryz.tE 65) := ⟨⟨Tryz.t65, _, by kernel_rfl, rfl, rfl, rfl, rfl, rfl, rfl⟩, ⟨_, Tryz.underlying65, ⟨_, rfl, rfl⟩⟩⟩
theorem Tryz.ty66 : TyOk Tryz.prog 66 (Tryz.tE 66) := ⟨⟨Tryz.t66, _, by kernel_rfl, rfl, rfl, rfl, rfl, rfl, rfl⟩, ⟨_, Tryz.underlying66, ⟨_, rfl, rfl⟩⟩⟩
theorem Tryz.ty67 : TyOk Tryz.prog 67 (Tryz.tE 67) := ⟨⟨Tryz.t67, _, by kernel_rfl, rfl, rfl, rfl, rfl, rfl, rfl⟩, ⟨_, Tryz.underlying67, ⟨_, rfl, rfl⟩⟩⟩
theorem Tryz.ty68 : TyOk Tryz.prog 68 (Tryz.tE 68) := ⟨⟨Tryz.t68, _, by kernel_rfl, rfl, rfl, rfl, rfl, rfl, rfl⟩, ⟨_, Tryz.underlying68, ⟨_, rfl, rfl⟩⟩⟩
theorem Tryz.ty69 : TyOk Tryz.prog 69 (Tryz.tE 69) := ⟨⟨Tryz.t69, _, by kernel_rfl, rfl, rfl, rfl, rfl, rfl, rfl⟩, ⟨_, Tryz.underlying69, ⟨_, rfl, rfl⟩⟩⟩
theorem Tryz.ty70 : TyOk Tryz.prog 70 (Tryz.tE 70) := ⟨⟨Tryz.t70, _, by kernel_rfl, rfl, rfl, rfl, rfl, rfl, rfl⟩, ⟨_, Tryz.underlying70, ⟨_, rfl, rfl⟩⟩⟩
theorem Tryz.ty72 : TyOk Tryz.prog 72 (Tryz.tE 72) := ⟨⟨Tryz.t72, _, by kernel_rfl, rfl, rfl, rfl, rfl, rfl, rfl⟩, ⟨_, Tryz.underlying72, ⟨_, _, _, rfl⟩⟩⟩
theorem Tryz.ty73 : TyOk Tryz.prog 73 (Tryz.tE 73) := ⟨⟨Tryz.t73, _, by kernel_rfl, rfl, rfl, rfl, rfl, rfl, rfl⟩, ⟨_, Tryz.underlying73, ⟨_, _, _, rfl⟩⟩⟩
theorem Tryz.ty74 : TyOk Tryz.prog 74 (Tryz.tE 74) := ⟨⟨Tryz.t74, _, by kernel_rfl, rfl, rfl, rfl, rfl, rfl, rfl⟩, ⟨_, Tryz.underlying74, ⟨_, _, _, rfl⟩⟩⟩
theorem Tryz.ty75 : TyOk Tryz.prog 75 (Tryz.tE 75) := ⟨⟨Tryz.t75, _, by kernel_rfl, rfl, rfl, rfl, rfl, rfl, rfl⟩, ⟨_, Tryz.underlying75, ⟨_, _, _, rfl⟩⟩⟩
theorem Tryz.ty76 : TyOk Tryz.prog 76 (Tryz.tE 76) := ⟨⟨Tryz.t76, _, by kernel_rfl, rfl, rfl, rfl, rfl, rfl, rfl⟩, ⟨_, Tryz.underlying76, ⟨_, _, _, rfl⟩⟩⟩
theorem Tryz.ty77 : TyOk Tryz.prog 77 (Tryz.tE 77) := ⟨⟨Tryz.t77, _, by kernel_rfl, rfl, rfl, rfl, rfl, rfl, rfl⟩, ⟨_, Tryz.underlying77, ⟨_, _, _, rfl⟩⟩⟩
theorem Tryz.ty78 : TyOk Tryz.prog 78 (Tryz.tE 78) := ⟨⟨Tryz.t78, _, by kernel_rfl, rfl, rfl, rfl, rfl, rfl, rfl⟩, ⟨_, Tryz.underlying78, ⟨_, _, _, rfl⟩⟩⟩
theorem Tryz.ty79 : TyOk Tryz.prog 79 (Tryz.tE 79) := ⟨⟨Tryz.t79, _, by kernel_rfl, rfl, rfl, rfl, rfl, rfl, rfl⟩, ⟨_, Tryz.underlying79, rfl⟩⟩
theorem Tryz.ty80 : TyOk Tryz.prog 80 (Tryz.tE 80) := ⟨⟨Tryz.t80, _, by kernel_rfl, rfl, rfl, rfl, rfl, rfl, rfl⟩, ⟨_, Tryz.underlying80, ⟨_, _, _, rfl⟩⟩⟩
theorem Tryz.ty81 : TyOk Tryz.prog 81 (Tryz.tE 81) := ⟨⟨Tryz.t81, _, by kernel_rfl, rfl, rfl, rfl, rfl, rfl, rfl⟩, ⟨_, Tryz.underlying81, rfl⟩⟩
theorem Tryz.ty82 : TyOk Tryz.prog 82 (Tryz.tE 82) := ⟨⟨Tryz.t82, _, by kernel_rfl, rfl, rfl, rfl, rfl, rfl, rfl⟩, ⟨_, Tryz.underlying82, ⟨_, _, _, rfl⟩⟩⟩
theorem Tryz.ty83 : TyOk Tryz.prog 83 (Tryz.tE 83) := ⟨⟨Tryz.t83, _, by kernel_rfl, rfl, rfl, rfl, rfl, rfl, rfl⟩, ⟨_, Tryz.underlying83, ⟨_, _, _, rfl⟩⟩⟩
theorem Tryz.ty84 : TyOk Tryz.prog 84 (Tryz.tE 84) := ⟨⟨Tryz.t84, _, by kernel_rfl, rfl, rfl, rfl, rfl, rfl, rfl⟩, ⟨_, Tryz.underlying84, ⟨_, _, _, rfl⟩⟩⟩
theorem Tryz.ty85 : TyOk Tryz.prog 85 (Tryz.tE 85) := ⟨⟨Tryz.t85, _, by kernel_rfl, rfl, rfl, rfl, rfl, rfl, rfl⟩, ⟨_, Tryz.underlying85, ⟨_, _, _, rfl⟩⟩⟩
theorem Tryz.ty86 : TyOk Tryz.prog 86 (Tryz.tE 86) := ⟨⟨Tryz.t86, _, by kernel_rfl, rfl, rfl, rfl, rfl, rfl, rfl⟩, ⟨_, Tryz.underlying86, ⟨_, _, _, rfl⟩⟩⟩
theorem Tryz.ty87 : TyOk Tryz.prog 87 (Tryz.tE 87) := ⟨⟨Tryz.t87, _, by kernel_rfl, rfl, rfl, rfl, rfl, rfl, rfl⟩, ⟨_, Tryz.underlying87, rfl⟩⟩
theorem Tryz.ty88 : TyOk Tryz.prog 88 (Tryz.tE 88) := ⟨⟨Tryz.t88, _, by kernel_rfl, rfl, rfl, rfl, rfl, rfl, rfl⟩, ⟨_, Tryz.underlying88, rfl⟩⟩
theorem Tryz.ty89 : TyOk Tryz.prog 89 (Tryz.tE 89) := ⟨⟨Tryz.t89, _, by kernel_rfl, rfl, rfl, rfl, rfl, rfl, rfl⟩, ⟨_, Tryz.underlying89, ⟨_, rfl, rfl⟩⟩⟩
theorem Tryz.ty90 : TyOk Tryz.prog 90 (Tryz.tE 90) := ⟨⟨Tryz.t90, _, by kernel_rfl, rfl, rfl, rfl, rfl, rfl, rfl⟩, ⟨_, Tryz.underlying90, ⟨_, rfl, rfl⟩⟩⟩
theorem Tryz.ty91 : TyOk Tryz.prog 91 (Tryz.tE 91) := ⟨⟨Tryz.t91, _, by kernel_rfl, rfl, rfl, rfl, rfl, rfl, rfl⟩, ⟨_, Tryz.underlying91, ⟨_, _, _, rfl⟩⟩⟩
theorem Tryz.ty92 : TyOk Tryz.prog 92 (Tryz.tE 92) := ⟨⟨Tryz.t92, _, by kernel_rfl, rfl, rfl, rfl, rfl, rfl, rfl⟩, ⟨_, Tryz.underlying92, rfl⟩⟩
theorem Tryz.ty93 : TyOk Tryz.prog 93 (Tryz.tE 93) := ⟨⟨Tryz.t93, _, by kernel_rfl, rfl, rfl, rfl, rfl, rfl, rfl⟩, ⟨_, Tryz.underlying93, ⟨_, _, _, rfl⟩⟩⟩
theorem Tryz.ty94 : TyOk Tryz.prog 94 (Tryz.tE 94) := ⟨⟨Tryz.t94, _, by kernel_rfl, rfl, rfl, rfl, rfl, rfl, rfl⟩, ⟨_, Tryz.underlying94, ⟨_, _, _, rfl⟩⟩⟩
theorem Tryz.ty95 : TyOk Tryz.prog 95 (Tryz.tE 95) := ⟨⟨Tryz.t95, _, by kernel_rfl, rfl, rfl, rfl, rfl, rfl, rfl⟩, ⟨_, Tryz.underlying95, rfl⟩⟩
theorem Tryz.ty96 : TyOk Tryz.prog 96 (Tryz.tE 96) := ⟨⟨Tryz.t96, _, by kernel_rfl, rfl, rfl, rfl, rfl, rfl, rfl⟩, ⟨_, Tryz.underlying96, ⟨_, _, _, rfl⟩⟩⟩
theorem Tryz.ty97 : TyOk Tryz.prog 97 (Tryz.tE 97) := ⟨⟨Tryz.t97, _, by kernel_rfl, rfl, rfl, rfl, rfl, rfl, rfl⟩, ⟨_, Tryz.underlying97, ⟨_, _, _, rfl⟩⟩⟩
theorem Tryz.ty98 : TyOk Tryz.prog 98 (Tryz.tE 98) := ⟨⟨Tryz.t98, _, by kernel_rfl, rfl, rfl, rfl, rfl, rfl, rfl⟩, ⟨_, Tryz.underlying98, rfl⟩⟩
theorem Tryz.ty99 : TyOk Tryz.prog 99 (Tryz.tE 99) := ⟨⟨Tryz.t99, _, by kernel_rfl, rfl, rfl, rfl, rfl, rfl, rfl⟩, ⟨_, Tryz.underlying99, ⟨_, _, _, rfl⟩⟩⟩
theorem Tryz.ty100 : TyOk Tryz.prog 100 (Tryz.tE 100) := ⟨⟨Tryz.t100, _, by kernel_rfl, rfl, rfl, rfl, rfl, rfl, rfl⟩, ⟨_, Tryz.underlying100, ⟨_, _, _, rfl⟩⟩⟩
theorem Tryz.ty101 : TyOk Tryz.prog 101 (Tryz.tE 101) := ⟨⟨Tryz.t101, _, by kernel_rfl, rfl, rfl, rfl, rfl, rfl, rfl⟩, ⟨_, Tryz.underlying101, ⟨_, _, _, rfl⟩⟩⟩
theorem Tryz.ty102 : TyOk Tryz.prog 102 (Tryz.tE 102) := ⟨⟨Tryz.t102, _, by kernel_rfl, rfl, rfl, rfl, rfl, rfl, rfl⟩, ⟨_, Tryz.underlying102, ⟨_, _, _, rfl⟩⟩⟩
theorem Tryz.ty103 : TyOk Tryz.prog 103 (Tryz.tE 103) := ⟨⟨Tryz.t103, _, by kernel_rfl, rfl, rfl, rfl, rfl, rfl, rfl⟩, ⟨_, Tryz.underlying103, ⟨_, _, _, rfl⟩⟩⟩
theorem Tryz.ty104 : TyOk Tryz.prog 104 (Tryz.tE 104) := ⟨⟨Tryz.t104, _, by kernel_rfl, rfl, rfl, rfl, rfl, rfl, rfl⟩, ⟨_, Tryz.underlying104, rfl⟩⟩
theorem Tryz.ty105 : TyOk Tryz.prog 105 (Tryz.tE 105) := ⟨⟨Tryz.t105, _, by kernel_rfl, rfl, rfl, rfl, rfl, rfl, rfl⟩, ⟨_, Tryz.underlying105, ⟨_, _, _, rfl⟩⟩⟩
theorem Tryz.ty106 : TyOk Tryz.prog 106 (Tryz.tE 106) := ⟨⟨Tryz.t106, _, by kernel_rfl, rfl, rfl, rfl, rfl, rfl, rfl⟩, ⟨_, Tryz.underlying106, ⟨_, _, _, rfl⟩⟩⟩
theorem Tryz.ty107 : TyOk Tryz.prog 107 (Tryz.tE 107) := ⟨⟨Tryz.t107, _, by kernel_rfl, rfl, rfl, rfl, rfl, rfl, rfl⟩, ⟨_, Tryz.underlying107, ⟨_, _, _, rfl⟩⟩⟩
theorem Tryz.ty108 : TyOk Tryz.prog 108 (Tryz.tE 108) := ⟨⟨Tryz.t108, _, by kernel_rfl, rfl, rfl, rfl, rfl, rfl, rfl⟩, ⟨_, Tryz.underlying108, ⟨_, _, _, rfl⟩⟩⟩
theorem Tryz.ty109 : TyOk Tryz.prog 109 (Tryz.tE 109) := ⟨⟨Tryz.t109, _, by kernel_rfl, rfl, rfl, rfl, rfl, rfl, rfl⟩, ⟨_, Tryz.underlying109, ⟨_, _, _, rfl⟩⟩⟩
theorem Tryz.ty110 : TyOk Tryz.prog 110 (Tryz.tE 110) := ⟨⟨Tryz.t110, _, by kernel_rfl, rfl, rfl, rfl, rfl, rfl, rfl⟩, ⟨_, Tryz.underlying110, ⟨_, _, _, rfl⟩⟩⟩
theorem Tryz.ty111 : TyOk Tryz.prog 111 (Tryz.tE 111) := ⟨⟨Tryz.t111, _, by kernel_rfl, rfl, rfl, rfl, rfl, rfl, rfl⟩, ⟨_, Tryz.underlying111, ⟨_, _, _, rfl⟩⟩⟩
theorem Tryz.ty112 : TyOk Tryz.prog 112 (Tryz.tE 112) := ⟨⟨Tryz.t112, _, by kernel_rfl, rfl, rfl, rfl, rfl, rfl, rfl⟩, ⟨_, Tryz.underlying112, ⟨_, _, _, rfl⟩⟩⟩
theorem Tryz.ty113 : TyOk Tryz.prog 113 (Tryz.tE 113) := ⟨⟨Tryz.t113, _, by kernel_rfl, rfl, rfl, rfl, rfl, rfl, rfl⟩, ⟨_, Tryz.underlying113, ⟨_, _, _, rfl⟩⟩⟩
theorem Tryz.ty114 : TyOk Tryz.prog 114 (Tryz.tE 114) := ⟨⟨Tryz.t114, _, by kernel_rfl, rfl, rfl, rfl, rfl, rfl, rfl⟩, ⟨_, Tryz.underlying114, ⟨_, _, _, rfl⟩⟩⟩
theorem Tryz.ty115 : TyOk Tryz.prog 115 (Tryz.tE 115) := ⟨⟨Tryz.t115, _, by kernel_rfl, rfl, rfl, rfl, rfl, rfl, rfl⟩, ⟨_, Tryz.underlying115, ⟨_, _, _, rfl⟩⟩⟩
theorem Tryz.ty116 : TyOk Tryz.prog 116 (Tryz.tE 116) := ⟨⟨Tryz.t116, _, by kernel_rfl, rfl, rfl, rfl, rfl, rfl, rfl⟩, ⟨_, Tryz.underlying116, ⟨_, _, _, rfl⟩⟩⟩
theorem Tryz.ty117 : TyOk Tryz.prog 117 (Tryz.tE 117) := ⟨⟨Tryz.t117, _, by kernel_rfl, rfl, rfl, rfl, rfl, rfl, rfl⟩, ⟨_, Tryz.underlying117, ⟨_, _, _, rfl⟩⟩⟩
theorem Tryz.ty118 : TyOk Tryz.prog 118 (Tryz.tE 118) := ⟨⟨Tryz.t118, _, by kernel_rfl, rfl, rfl, rfl, rfl, rfl, rfl⟩, ⟨_, Tryz.underlying118, ⟨_, _, _, rfl⟩⟩⟩
theorem Tryz.ty119 : TyOk Tryz.prog 119 (Tryz.tE 119) := ⟨⟨Tryz.t119, _, by kernel_rfl, rfl, rfl, rfl, rfl, rfl, rfl⟩, ⟨_, Tryz.underlying119, ⟨_, rfl, rfl⟩⟩⟩
theorem Tryz.ty120 : TyOk Tryz.prog 120 (Tryz.tE 120) := ⟨⟨Tryz.t120, _, by kernel_rfl, rfl, rfl, rfl, rfl, rfl, rfl⟩, ⟨_, Tryz.underlying120, ⟨_, rfl, rfl⟩⟩⟩
theorem Tryz.ty121 : TyOk Tryz.prog 121 (Tryz.tE 121) := ⟨⟨Tryz.t121, _, by kernel_rfl, rfl, rfl, rfl, rfl, rfl, rfl⟩, ⟨_, Tryz.underlying121, ⟨_, _, _, rfl⟩⟩⟩
theorem Tryz.ty122 : TyOk Tryz.prog 122 (Tryz.tE 122) := ⟨⟨Tryz.t122, _, by kernel_rfl, rfl, rfl, rfl, rfl, rfl, rfl⟩, ⟨_, Tryz.underlying122, ⟨_, _, _, rfl⟩⟩⟩
theorem Tryz.ty123 : TyOk Tryz.prog 123 (Tryz.tE 123) := ⟨⟨Tryz.t123, _, by kernel_rfl, rfl, rfl, rfl, rfl, rfl, rfl⟩, ⟨_, Tryz.underlying123, ⟨_, _, _, rfl⟩⟩⟩
theorem Tryz.ty124 : TyOk Tryz.prog 124 (Tryz.tE 124) := ⟨⟨Tryz.t124, _, by kernel_rfl, rfl, rfl, rfl, rfl, rfl, rfl⟩, ⟨_, Tryz.underlying124, ⟨_, _, _, rfl⟩⟩⟩
theorem Tryz.ty125 : TyOk Tryz.prog 125 (Tryz.tE 125) := ⟨⟨Tryz.t125, _, by kernel_rfl, rfl, rfl, rfl, rfl, rfl, rfl⟩, ⟨_, Tryz.underlying125, rfl⟩⟩
theorem Tryz.ty126 : TyOk Tryz.prog 126 (Tryz.tE 126) := ⟨⟨Tryz.t126, _, by kernel_rfl, rfl, rfl, rfl, rfl, rfl, rfl⟩, ⟨_, Tryz.underlying126, ⟨_, _, _, rfl⟩⟩⟩
theorem Tryz.ty127 : TyOk Tryz.prog 127 (Tryz.tE 127) := ⟨⟨Tryz.t127, _, by kernel_rfl, rfl, rfl, rfl, rfl, rfl, rfl⟩, ⟨_, Tryz.underlying127, ⟨_, _, _, rfl⟩⟩⟩
theorem Tryz.ty128 : TyOk Tryz.prog 128 (Tryz.tE 128) := ⟨⟨Tryz.t128, _, by kernel_rfl, rfl, rfl, rfl, rfl, rfl, rfl⟩, ⟨_, Tryz.underlying128, ⟨_, _, _, rfl⟩⟩⟩
theorem Tryz.ty129 : TyOk Tryz.prog 129 (Tryz.tE 129) := ⟨⟨Tryz.t129, _, by kernel_rfl, rfl, rfl, rfl, rfl, rfl, rfl⟩, ⟨_, Tryz.underlying129, ⟨_, _, _, rfl⟩⟩⟩
theorem Tryz.ty130 : TyOk Tryz.prog 130 (Tryz.tE 130) := ⟨⟨Tryz.t130, _, by kernel_rfl, rfl, rfl, rfl, rfl, rfl, rfl⟩, ⟨_, Tryz.underlying130, ⟨_, _, _, rfl⟩⟩⟩
theorem Tryz.ty131 : TyOk Tryz.prog 131 (Tryz.tE 131) := ⟨⟨Tryz.t131, _, by kernel_rfl, rfl, rfl, rfl, rfl, rfl, rfl⟩, ⟨_, Tryz.underlying131, ⟨_, _, _, rfl⟩⟩⟩
theorem Tryz.ty132 : TyOk Tryz.prog 132 (Tryz.tE 132) := ⟨⟨Tryz.t132, _, by kernel_rfl, rfl, rfl, rfl, rfl, rfl, rfl⟩, ⟨_, Tryz.underlying132, ⟨_, _, _, rfl⟩⟩⟩
theorem Tryz.ty133 : TyOk Tryz.prog 133 (Tryz.tE 133) := ⟨⟨Tryz.t133, _, by kernel_rfl, rfl, rfl, rfl, rfl, rfl, rfl⟩, ⟨_, Tryz.underlying133, ⟨_, _, _, rfl⟩⟩⟩
theorem Tryz.ty134 : TyOk Tryz.prog 134 (Tryz.tE 134) := ⟨⟨Tryz.t134, _, by kernel_rfl, rfl, rfl, rfl, rfl, rfl, rfl⟩, ⟨_, Tryz.underlying134, ⟨_, _, _, rfl⟩⟩⟩
theorem Tryz.ty135 : TyOk Tryz.prog 135 (Tryz.tE 135) := ⟨⟨Tryz.t135, _, by kernel_rfl, rfl, rfl, rfl, rfl, rfl, rfl⟩, ⟨_, Tryz.underlying135, rfl⟩⟩
theorem Tryz.ty136 : TyOk Tryz.prog 136 (Tryz.tE 136) := ⟨⟨Tryz.t136, _, by kernel_rfl, rfl, rfl, rfl, rfl, rfl, rfl⟩, ⟨_, Tryz.underlying136, rfl⟩⟩
theorem Tryz.ty137 : TyOk Tryz.prog 137 (Tryz.tE 137) := ⟨⟨Tryz.t137, _, by kernel_rfl, rfl, rfl, rfl, rfl, rfl, rfl⟩, ⟨_, Tryz.underlying137, ⟨_, _, _, rfl⟩⟩⟩
theorem Tryz.ty138 : TyOk Tryz.prog 138 (Tryz.tE 138) := ⟨⟨Tryz.t138, _, by kernel_rfl, rfl, rfl, rfl, rfl, rfl, rfl⟩, ⟨_, Tryz.underlying138, ⟨_, _, _, rfl⟩⟩⟩
theorem Tryz.ty139 : TyOk Tryz.prog 139 (Tryz.tE 139) := ⟨⟨Tryz.t139, _, by kernel_rfl, rfl, rfl, rfl, rfl, rfl, rfl⟩, ⟨_, Tryz.underlying139, ⟨_, _, _, rfl⟩⟩⟩
theorem Tryz.ty140 : TyOk Tryz.prog 140 (Tryz.tE 140) := ⟨⟨Tryz.t140, _, by kernel_rfl, rfl, rfl, rfl, rfl, rfl, rfl⟩, ⟨_, Tryz.underlying140, ⟨_, _, _, rfl⟩⟩⟩
theorem Tryz.ty141 : TyOk Tryz.prog 141 (Tryz.tE 141) := ⟨⟨Tryz.t141, _, by kernel_rfl, rfl, rfl, rfl, rfl, rfl, rfl⟩, ⟨_, Tryz.underlying141, ⟨_, _, _, rfl⟩⟩⟩
theorem Tryz.ty142 : TyOk Tryz.prog 142 (Tryz.tE 142) := ⟨⟨Tryz.t142, _, by kernel_rfl, rfl, rfl, rfl, rfl, rfl, rfl⟩, ⟨_, Tryz.underlying142, ⟨_, _, _, rfl⟩⟩⟩
theorem Tryz.ty143 : TyOk Tryz.prog 143 (Tryz.tE 143) := ⟨⟨Tryz.t143, _, by kernel_rfl, rfl, rfl, rfl, rfl, rfl, rfl⟩, ⟨_, Tryz.underlying143, ⟨_, _, _, rfl⟩⟩⟩
theorem Tryz.ty144 : TyOk Tryz.prog 144 (Tryz.tE 144) := ⟨⟨Tryz.t144, _, by kernel_rfl, rfl, rfl, rfl, rfl, rfl, rfl⟩, ⟨_, Tryz.underlying144, ⟨_, _, _, rfl⟩⟩⟩
theorem Tryz.ty145 : TyOk Tryz.prog 145 (Tryz.tE 145) := ⟨⟨Tryz.t145, _, by kernel_rfl, rfl, rfl, rfl, rfl, rfl, rfl⟩, ⟨_, Tryz.underlying145, ⟨_, _, _, rfl⟩⟩⟩
theorem Tryz.ty146 : TyOk Tryz.prog 146 (Tryz.tE 146) := ⟨⟨Tryz.t146, _, by kernel_rfl, rfl, rfl, rfl, rfl, rfl, rfl⟩, ⟨_, Tryz.underlying146, ⟨_, _, _, rfl⟩⟩⟩
theorem Tryz.ty147 : TyOk Tryz.prog 147 (Tryz.tE 147) := ⟨⟨Tryz.t147, _, by kernel_rfl, rfl, rfl, rfl, rfl, rfl, rfl⟩, ⟨_, Tryz.underlying147, ⟨_, _, _, rfl⟩⟩⟩
theorem Tryz.ty148 : TyOk Tryz.prog 148 (Tryz.tE 148) := ⟨⟨Tryz.t148, _, by kernel_rfl, rfl, rfl, rfl, rfl, rfl, rfl⟩, ⟨_, Tryz.underlying148, ⟨_, _, _, rfl⟩⟩⟩
theorem Tryz.ty149 : TyOk Tryz.prog 149 (Tryz.tE 149) := ⟨⟨Tryz.t149, _, by kernel_rfl, rfl, rfl, rfl, rfl, rfl, rfl⟩, ⟨_, Tryz.underlying149, ⟨_, _, _, rfl⟩⟩⟩
theorem Tryz.ty150 : TyOk Tryz.prog 150 (Tryz.tE 150) := ⟨⟨Tryz.t150, _, by kernel_rfl, rfl, rfl, rfl, rfl, rfl, rfl⟩, ⟨_, Tryz.underlying150, ⟨_, _, _, rfl⟩⟩⟩
theorem Tryz.ty151 : TyOk Tryz.prog 151 (Tryz.tE 151) := ⟨⟨Tryz.t151, _, by kernel_rfl, rfl, rfl, rfl, rfl, rfl, rfl⟩, ⟨_, Tryz.underlying151, ⟨_, _, _, rfl⟩⟩⟩
theorem Tryz.ty152 : TyOk Tryz.prog 152 (Tryz.tE 152) := ⟨⟨Tryz.t152, _, by kernel_rfl, rfl, rfl, rfl, rfl, rfl, rfl⟩, ⟨_, Tryz.underlying152, ⟨_, _, _, rfl⟩⟩⟩
theorem Tryz.ty153 : TyOk Tryz.prog 153 (Tryz.tE 153) := ⟨⟨Tryz.t153, _, by kernel_rfl, rfl, rfl, rfl, rfl, rfl, rfl⟩, ⟨_, Tryz.underlying153, ⟨_, _, _, rfl⟩⟩⟩
theorem Tryz.ty154 : TyOk Tryz.prog 154 (Tryz.tE 154) := ⟨⟨Tryz.t154, _, by kernel_rfl, rfl, rfl, rfl, rfl, rfl, rfl⟩, ⟨_, Tryz.underlying154, rfl⟩⟩
theorem Tryz.ty155 : TyOk Tryz.prog 155 (Tryz.tE 155) := ⟨⟨Tryz.t155, _, by kernel_rfl, rfl, rfl, rfl, rfl, rfl, rfl⟩, ⟨_, Tryz.underlying155, ⟨_, _, _, rfl⟩⟩⟩
theorem Tryz.ty157 : TyOk Tryz.prog 157 (Tryz.tE 157) := ⟨⟨Tryz.t157, _, by kernel_rfl, rfl, rfl, rfl, rfl, rfl, rfl⟩, ⟨_, Tryz.underlying157, ⟨_, _, _, rfl⟩⟩⟩
theorem Tryz.ty158 : TyOk Tryz.prog 158 (Tryz.tE 158) := ⟨⟨Tryz.t158, _, by kernel_rfl, rfl, rfl, rfl, rfl, rfl, rfl⟩, ⟨_, Tryz.underlying158, ⟨_, _, _, rfl⟩⟩⟩
theorem Tryz.ty159 : TyOk Tryz.prog 159 (Tryz.tE 159) := ⟨⟨Tryz.t159, _, by kernel_rfl, rfl, rfl, rfl, rfl, rfl, rfl⟩, ⟨_, Tryz.underlying159, ⟨_, _, _, rfl⟩⟩⟩
theorem Tryz.ty160 : TyOk Tryz.prog 160 (Tryz.tE 160) := ⟨⟨Tryz.t160, _, by kernel_rfl, rfl, rfl, rfl, rfl, rfl, rfl⟩, ⟨_, Tryz.underlying160, ⟨_, _, _, rfl⟩⟩⟩
theorem Tryz.ty162 : TyOk Tryz.prog 162 (Tryz.tE 162) := ⟨⟨Tryz.t162, _, by kernel_rfl, rfl, rfl, rfl, rfl, rfl, rfl⟩, ⟨_, Tryz.underlying162, ⟨_, _, _, rfl⟩⟩⟩
theorem Tryz.ty163 : TyOk Tryz.prog 163 (Tryz.tE 163) := ⟨⟨Tryz.t163, _, by kernel_rfl, rfl, rfl, rfl, rfl, rfl, rfl⟩, ⟨_, Tryz.underlying163, ⟨_, _, _, rfl⟩⟩⟩
theorem Tryz.ty164 : TyOk Tryz.prog 164 (Tryz.tE 164) := ⟨⟨Tryz.t164, _, by kernel_rfl, rfl, rfl, rfl, rfl, rfl, rfl⟩, ⟨_, Tryz.underlying164, ⟨_, _, _, rfl⟩⟩⟩
theorem Tryz.ty165 : TyOk Tryz.prog 165 (Tryz.tE 165) := ⟨⟨Tryz.t165, _, by kernel_rfl, rfl, rfl, rfl, rfl, rfl, rfl⟩, ⟨_, Tryz.underlying165, ⟨_, _, _, rfl⟩⟩⟩
theorem Tryz.ty166 : TyOk Tryz.prog 166 (Tryz.tE 166) := ⟨⟨Tryz.t166, _, by kernel_rfl, rfl, rfl, rfl, rfl, rfl, rfl⟩, ⟨_, Tryz.underlying166, ⟨_, _, _, rfl⟩⟩⟩
theorem Tryz.ty167 : TyOk Tryz.prog 167 (Tryz.tE 167) := ⟨⟨Tryz.t167, _, by kernel_rfl, rfl, rfl, rfl, rfl, rfl, rfl⟩, ⟨_, Tryz.underlying167, ⟨_, _, _, rfl⟩⟩⟩
theorem Tryz.ty168 : TyOk Tryz.prog 168 (Tryz.tE 168) := ⟨⟨Tryz.t168, _, by kernel_rfl, rfl, rfl, rfl, rfl, rfl, rfl⟩, ⟨_, Tryz.underlying168, ⟨_, _, _, rfl⟩⟩⟩
theorem Tryz.ty170 : TyOk Tryz.prog 170 (Tryz.tE 170) := ⟨⟨Tryz.t170, _, by kernel_rfl, rfl, rfl, rfl, rfl, rfl, rfl⟩, ⟨_, Tryz.underlying170, ⟨_, _, _, rfl⟩⟩⟩
theorem Tryz.ty171 : TyOk Tryz.prog 171 (Tryz.tE 171) := ⟨⟨Tryz.t171, _, by kernel_rfl, rfl, rfl, rfl, rfl, rfl, rfl⟩, ⟨_, Tryz.underlying171, ⟨_, _, _, rfl⟩⟩⟩
theorem Tryz.ty172 : TyOk Tryz.prog 172 (Tryz.tE 172) := ⟨⟨Tryz.t172, _, by kernel_rfl, rfl, rfl, rfl, rfl, rfl, rfl⟩, ⟨_, Tryz.underlying172, ⟨_, _, _, rfl⟩⟩⟩
theorem Tryz.ty173 : TyOk Tryz.prog 173 (Tryz.tE 173) := ⟨⟨Tryz.t173, _, by kernel_rfl, rfl, rfl, rfl, rfl, rfl, rfl⟩, ⟨_, Tryz.underlying173, rfl⟩⟩
theorem Tryz.ty174 : TyOk Tryz.prog 174 (Tryz.tE 174) := ⟨⟨Tryz.t174, _, by kernel_rfl, rfl, rfl, rfl, rfl, rfl, rfl⟩, ⟨_, Tryz.underlying174, ⟨_, _, _, rfl⟩⟩⟩
theorem Tryz.ty175 : TyOk Tryz.prog 175 (Tryz.tE 175) := ⟨⟨Tryz.t175, _, by kernel_rfl, rfl, rfl, rfl, rfl, rfl, rfl⟩, ⟨_, Tryz.underlying175, ⟨_, _, _, rfl⟩⟩⟩
theorem Tryz.ty176 : TyOk Tryz.prog 176 (Tryz.tE 176) := ⟨⟨Tryz.t176, _, by kernel_rfl, rfl, rfl, rfl, rfl, rfl, rfl⟩, ⟨_, Tryz.underlying176, ⟨_, _, _, rfl⟩⟩⟩
theorem Tryz.ty177 : TyOk Tryz.prog 177 (Tryz.tE 177) := ⟨⟨Tryz.t177, _, by kernel_rfl, rfl, rfl, rfl, rfl, rfl, rfl⟩, ⟨_, Tryz.underlying177, ⟨_, _, _, rfl⟩⟩⟩
theorem Tryz.ty178 : TyOk Tryz.prog 178 (Tryz.tE 178) := ⟨⟨Tryz.t178, _, by kernel_rfl, rfl, rfl, rfl, rfl, rfl, rfl⟩, ⟨_, Tryz.underlying178, ⟨_, _, _, rfl⟩⟩⟩
theorem Tryz.ty179 : TyOk Tryz.prog 179 (Tryz.tE 179) := ⟨⟨Tryz.t179, _, by kernel_rfl, rfl, rfl, rfl, rfl, rfl, rfl⟩, ⟨_, Tryz.underlying179, ⟨_, _, _, rfl⟩⟩⟩
theorem Tryz.ty180 : TyOk Tryz.prog 180 (Tryz.tE 180) := ⟨⟨Tryz.t180, _, by kernel_rfl, rfl, rfl, rfl, rfl, rfl, rfl⟩, ⟨_, Tryz.underlying180, rfl⟩⟩
theorem Tryz.ty181 : TyOk Tryz.prog 181 (Tryz.tE 181) := ⟨⟨Tryz.t181, _, by kernel_rfl, rfl, rfl, rfl, rfl, rfl, rfl⟩, ⟨_, Tryz.underlying181, ⟨_, _, _, rfl⟩⟩⟩
theorem Tryz.ty182 : TyOk Tryz.prog 182 (Tryz.tE 182) := ⟨⟨Tryz.t182, _, by kernel_rfl, rfl, rfl, rfl, rfl, rfl, rfl⟩, ⟨_, Tryz.underlying182, ⟨_, _, _, rfl⟩⟩⟩
theorem Tryz.ty183 : TyOk Tryz.prog 183 (Tryz.tE 183) := ⟨⟨Tryz.t183, _, by kernel_rfl, rfl, rfl, rfl, rfl, rfl, rfl⟩, ⟨_, Tryz.underlying183, ⟨_, _, _, rfl⟩⟩⟩
theorem Tryz.ty184 : TyOk Tryz.prog 184 (Tryz.tE 184) := ⟨⟨Tryz.t184, _, by kernel_rfl, rfl, rfl, rfl, rfl, rfl, rfl⟩, ⟨_, Tryz.underlying184, ⟨_, _, _, rfl⟩⟩⟩
theorem Tryz.ty185 : TyOk Tryz.prog 185 (Tryz.tE 185) := ⟨⟨Tryz.t185, _, by kernel_rfl, rfl, rfl, rfl, rfl, rfl, rfl⟩, ⟨_, Tryz.underlying185, ⟨_, _, _, rfl⟩⟩⟩
theorem Tryz.ty186 : TyOk Tryz.prog 186 (Tryz.tE 186) := ⟨⟨Tryz.t186, _, by kernel_rfl, rfl, rfl, rfl, rfl, rfl, rfl⟩, ⟨_, Tryz.underlying186, rfl⟩⟩
theorem Tryz.ty187 : TyOk Tryz.prog 187 (Tryz.tE 187) := ⟨⟨Tryz.t187, _, by kernel_rfl, rfl, rfl, rfl, rfl, rfl, rfl⟩, ⟨_, Tryz.underlying187, rfl⟩⟩
theorem Tryz.ty188 : TyOk Tryz.prog 188 (Tryz.tE 188) := ⟨⟨Tryz.t188, _, by kernel_rfl, rfl, rfl, rfl, rfl, rfl, rfl⟩, ⟨_, Tryz.underlying188, ⟨_, _, _, rfl⟩⟩⟩
theorem Tryz.ty189 : TyOk Tryz.prog 189 (Tryz.tE 189) := ⟨⟨Tryz.t189, _, by kernel_rfl, rfl, rfl, rfl, rfl, rfl, rfl⟩, ⟨_, Tryz.underlying189, ⟨_, _, _, rfl⟩⟩⟩
theorem Tryz.ty190 : TyOk Tryz.prog 190 (Tryz.tE 190) := ⟨⟨Tryz.t190, _, by kernel_rfl, rfl, rfl, rfl, rfl, rfl, rfl⟩, ⟨_, Tryz.underlying190, ⟨_, _, _, rfl⟩⟩⟩
theorem Tryz.ty192 : TyOk Tryz.prog 192 (Tryz.tE 192) := ⟨⟨Tryz.t192, _, by kernel_rfl, rfl, rfl, rfl, rfl, rfl, rfl⟩, ⟨_, Tryz.underlying192, ⟨_, _, _, rfl⟩⟩⟩
theorem Tryz.ty193 : TyOk Tryz.prog 193 (Tryz.tE 193) := ⟨⟨Tryz.t193, _, by kernel_rfl, rfl, rfl, rfl, rfl, rfl, rfl⟩, ⟨_, Tryz.underlying193, ⟨_, _, _, rfl⟩⟩⟩
theorem Tryz.ty194 : TyOk Tryz.prog 194 (Tryz.tE 194) := ⟨⟨Tryz.t194, _, by kernel_rfl, rfl, rfl, rfl, rfl, rfl, rfl⟩, ⟨_, Tryz.underlying194, ⟨_, _, _, rfl⟩⟩⟩
theorem Tryz.ty195 : TyOk Tryz.prog 195 (Tryz.tE 195) := ⟨⟨Tryz.t195, _, by kernel_rfl, rfl, rfl, rfl, rfl, rfl, rfl⟩, ⟨_, Tryz.underlying195, rfl⟩⟩
theorem Tryz.ty196 : TyOk Tryz.prog 196 (Tryz.tE 196) := ⟨⟨Tryz.t196, _, by kernel_rfl, rfl, rfl, rfl, rfl, rfl, rfl⟩, ⟨_, Tryz.underlying196, ⟨_, rfl, rfl⟩⟩⟩
theorem Tryz.ty197 : TyOk Tryz.prog 197 (Tryz.tE 197) := ⟨⟨Tryz.t197, _, by kernel_rfl, rfl, rfl, rfl, rfl, rfl, rfl⟩, ⟨_, Tryz.underlying197, ⟨_, rfl, rfl⟩⟩⟩
theorem Tryz.ty198 : TyOk Tryz.prog 198 (Tryz.tE 198) := ⟨⟨Tryz.t198, _, by kernel_rfl, rfl, rfl, rfl, rfl, rfl, rfl⟩, ⟨_, Tryz.underlying198, ⟨_, _, _, rfl⟩⟩⟩
theorem Tryz.ty199 : TyOk Tryz.prog 199 (Tryz.tE 199) := ⟨⟨Tryz.t199, _, by kernel_rfl, rfl, rfl, rfl, rfl, rfl, rfl⟩, ⟨_, Tryz.underlying199, ⟨_, _, _, rfl⟩⟩⟩
theorem Tryz.ty200 : TyOk Tryz.prog 200 (Tryz.tE 200) := ⟨⟨Tryz.t200, _, by kernel_rfl, rfl, rfl, rfl, rfl, rfl, rfl⟩, ⟨_, Tryz.underlying200, rfl⟩⟩
theorem Tryz.ty201 : TyOk Tryz.prog 201 (Tryz.tE 201) := ⟨⟨Tryz.t201, _, by kernel_rfl, rfl, rfl, rfl, rfl, rfl, rfl⟩, ⟨_, Tryz.underlying201, ⟨_, rfl, rfl⟩⟩⟩
theorem Tryz.ty202 : TyOk Tryz.prog 202 (Tryz.tE 202) := ⟨⟨Tryz.t202, _, by kernel_rfl, rfl, rfl, rfl, rfl, rfl, rfl⟩, ⟨_, Tryz.underlying202, ⟨_, rfl, rfl⟩⟩⟩
theorem Tryz.ty204 : TyOk Tryz.prog 204 (Tryz.tE 204) := ⟨⟨Tryz.t204, _, by kernel_rfl, rfl, rfl, rfl, rfl, rfl, rfl⟩, ⟨_, Tryz.underlying204, ⟨_, _, _, rfl⟩⟩⟩
theorem Tryz.ty205 : TyOk Tryz.prog 205 (Tryz.tE 205) := ⟨⟨Tryz.t205, _, by kernel_rfl, rfl, rfl, rfl, rfl, rfl, rfl⟩, ⟨_, Tryz.underlying205, rfl⟩⟩
theorem Tryz.ty206 : TyOk Tryz.prog 206 (Tryz.tE 206) := ⟨⟨Tryz.t206, _, by kernel_rfl, rfl, rfl, rfl, rfl, rfl, rfl⟩, ⟨_, Tryz.underlying206, rfl⟩⟩
theorem Tryz.ty207 : TyOk Tryz.prog 207 (Tryz.tE 207) := ⟨⟨Tryz.t207, _, by kernel_rfl, rfl, rfl, rfl, rfl, rfl, rfl⟩, ⟨_, Tryz.underlying207, ⟨_, _, _, rfl⟩⟩⟩
theorem Tryz.ty208 : TyOk Tryz.prog 208 (Tryz.tE 208) := ⟨⟨Tryz.t208, _, by kernel_rfl, rfl, rfl, rfl, rfl, rfl, rfl⟩, ⟨_, Tryz.underlying208, ⟨_, _, _, rfl⟩⟩⟩
theorem Tryz.ty209 : TyOk Tryz.prog 209 (Tryz.tE 209) := ⟨⟨Tryz.t209, _, by kernel_rfl, rfl, rfl, rfl, rfl, rfl, rfl⟩, ⟨_, Tryz.underlying209, ⟨_, rfl, rfl⟩⟩⟩
theorem Tryz.ty210 : TyOk Tryz.prog 210 (Tryz.tE 210) := ⟨⟨Tryz.t210, _, by kernel_rfl, rfl, rfl, rfl, rfl, rfl, rfl⟩, ⟨_, Tryz.underlying210, ⟨_, rfl, rfl⟩⟩⟩
theorem Tryz.ty211 : TyOk Tryz.prog 211 (Tryz.tE 211) := ⟨⟨Tryz.t211, _, by kernel_rfl, rfl, rfl, rfl, rfl, rfl, rfl⟩, ⟨_, Tryz.underlying211, ⟨_, rfl, rfl⟩⟩⟩
theorem Tryz.ty212 : TyOk Tryz.prog 212 (Tryz.tE 212) := ⟨⟨Tryz.t212, _, by kernel_rfl, rfl, rfl, rfl, rfl, rfl, rfl⟩, ⟨_, Tryz.underlying212, ⟨_, rfl, rfl⟩⟩⟩
theorem Tryz.ty213 : TyOk Tryz.prog 213 (Tryz.tE 213) := ⟨⟨Tryz.t213, _, by kernel_rfl, rfl, rfl, rfl, rfl, rfl, rfl⟩, ⟨_, Tryz.underlying213, ⟨_, _, _, rfl⟩⟩⟩
theorem Tryz.ty214 : TyOk Tryz.prog 214 (Tryz.tE 214) := ⟨⟨Tryz.t214, _, by kernel_rfl, rfl, rfl, rfl, rfl, rfl, rfl⟩, ⟨_, Tryz.underlying214, ⟨_, _, _, rfl⟩⟩⟩
theorem Tryz.ty215 : TyOk Tryz.prog 215 (Tryz.tE 215) := ⟨⟨Tryz.t215, _, by kernel_rfl, rfl, rfl, rfl, rfl, rfl, rfl⟩, ⟨_, Tryz.underlying215, ⟨_, _, _, rfl⟩⟩⟩
theorem Tryz.ty216 : TyOk Tryz.prog 216 (Tryz.tE 216) := ⟨⟨Tryz.t216, _, by kernel_rfl, rfl, rfl, rfl, rfl, rfl, rfl⟩, ⟨_, Tryz.underlying216, ⟨_, _, _, rfl⟩⟩⟩
theorem Tryz.ty217 : TyOk Tryz.prog 217 (Tryz.tE 217) := ⟨⟨Tryz.t217, _, by kernel_rfl, rfl, rfl, rfl, rfl, rfl, rfl⟩, ⟨_, Tryz.underlying217, ⟨_, _, _, rfl⟩⟩⟩
theorem Tryz.ty218 : TyOk Tryz.prog 218 (Tryz.tE 218) := ⟨⟨Tryz.t218, _, by kernel_rfl, rfl, rfl, rfl, rfl, rfl, rfl⟩, ⟨_, Tryz.underlying218, ⟨_, _, _, rfl⟩⟩⟩
theorem Tryz.ty219 : TyOk Tryz.prog 219 (Tryz.tE 219) := ⟨⟨Tryz.t219, _, by kernel_rfl, rfl, rfl, rfl, rfl, rfl, rfl⟩, ⟨_, Tryz.underlying219, ⟨_, _, _, rfl⟩⟩⟩
theorem Tryz.ty220 : TyOk Tryz.prog 220 (Tryz.tE 220) := ⟨⟨Tryz.t220, _, by kernel_rfl, rfl, rfl, rfl, rfl, rfl, rfl⟩, ⟨_, Tryz.underlying220, rfl⟩⟩
theorem Tryz.ty222 : TyOk Tryz.prog 222 (Tryz.tE 222) := ⟨⟨Tryz.t222, _, by kernel_rfl, rfl, rfl, rfl, rfl, rfl, rfl⟩, ⟨_, Tryz.underlying222, ⟨_, _, _, rfl⟩⟩⟩
theorem Tryz.ty223 : TyOk Tryz.prog 223 (Tryz.tE 223) := ⟨⟨Tryz.t223, _, by kernel_rfl, rfl, rfl, rfl, rfl, rfl, rfl⟩, ⟨_, Tryz.underlying223, ⟨_, _, _, rfl⟩⟩⟩
theorem Tryz.ty224 : TyOk Tryz.prog 224 (Tryz.tE 224) := ⟨⟨Tryz.t224, _, by kernel_rfl, rfl, rfl, rfl, rfl, rfl, rfl⟩, ⟨_, Tryz.underlying224, ⟨_, _, _, rfl⟩⟩⟩
theorem Tryz.ty225 : TyOk Tryz.prog 225 (Tryz.tE 225) := ⟨⟨Tryz.t225, _, by kernel_rfl, rfl, rfl, rfl, rfl, rfl, rfl⟩, ⟨_, Tryz.underlying225, ⟨_, _, _, rfl⟩⟩⟩
theorem Tryz.ty226 : TyOk Tryz.prog 226 (Tryz.tE 226) := ⟨⟨Tryz.t226, _, by kernel_rfl, rfl, rfl, rfl, rfl, rfl, rfl⟩, ⟨_, Tryz.underlying226, ⟨_, _, _, rfl⟩⟩⟩
theorem Tryz.ty227 : TyOk Tryz.prog 227 (Tryz.tE 227) := ⟨⟨Tryz.t227, _, by kernel_rfl, rfl, rfl, rfl, rfl, rfl, rfl⟩, ⟨_, Tryz.underlying227, ⟨_, _, _, rfl⟩⟩⟩
theorem Tryz.ty228 : TyOk Tryz.prog 228 (Tryz.tE 228) := ⟨⟨Tryz.t228, _, by kernel_rfl, rfl, rfl, rfl, rfl, rfl, rfl⟩, ⟨_, Tryz.underlying228, rfl⟩⟩
theorem Tryz.ty229 : TyOk Tryz.prog 229 (Tryz.tE 229) := ⟨⟨Tryz.t229, _, by kernel_rfl, rfl, rfl, rfl, rfl, rfl, rfl⟩, ⟨_, Tryz.underlying229, ⟨_, _, _, rfl⟩⟩⟩
theorem Tryz.ty230 : TyOk Tryz.prog 230 (Tryz.tE 230) := ⟨⟨Tryz.t230, _, by kernel_rfl, rfl, rfl, rfl, rfl, rfl, rfl⟩, ⟨_, Tryz.underlying230, rfl⟩⟩
theorem Tryz.ty231 : TyOk Tryz.prog 231 (Tryz.tE 231) := ⟨⟨Tryz.t231, _, by kernel_rfl, rfl, rfl, rfl, rfl, rfl, rfl⟩, ⟨_, Tryz.underlying231, ⟨_, _, _, rfl⟩⟩⟩
theorem Tryz.ty232 : TyOk Tryz.prog 232 (Tryz.tE 232) := ⟨⟨Tryz.t232, _, by kernel_rfl, rfl, rfl, rfl, rfl, rfl, rfl⟩, ⟨_, Tryz.underlying232, ⟨_, _, _, rfl⟩⟩⟩
theorem Tryz.ty233 : TyOk Tryz.prog 233 (Tryz.tE 233) := ⟨⟨Tryz.t233, _, by kernel_rfl, rfl, rfl, rfl, rfl, rfl, rfl⟩, ⟨_, Tryz.underlying233, rfl⟩⟩
theorem Tryz.ty234 : TyOk Tryz.prog 234 (Tryz.tE 234) := ⟨⟨Tryz.t234, _, by kernel_rfl, rfl, rfl, rfl, rfl, rfl, rfl⟩, ⟨_, Tryz.underlying234, ⟨_, _, _, rfl⟩⟩⟩
theorem Tryz.ty235 : TyOk Tryz.prog 235 (Tryz.tE 235) := ⟨⟨Tryz.t235, _, by kernel_rfl, rfl, rfl, rfl, rfl, rfl, rfl⟩, ⟨_, Tryz.underlying235, ⟨_, _, _, rfl⟩⟩⟩
theorem Tryz.ty236 : TyOk Tryz.prog 236 (Tryz.tE 236) := ⟨⟨Tryz.t236, _, by kernel_rfl, rfl, rfl, rfl, rfl, rfl, rfl⟩, ⟨_, Tryz.underlying236, ⟨_, _, _, rfl⟩⟩⟩
theorem Tryz.ty237 : TyOk Tryz.prog 237 (Tryz.tE 237) := ⟨⟨Tryz.t237, _, by kernel_rfl, rfl, rfl, rfl, rfl, rfl, rfl⟩, ⟨_, Tryz.underlying237, ⟨_, _, _, rfl⟩⟩⟩
theorem Tryz.ty238 : TyOk Tryz.prog 238 (Tryz.tE 238) := ⟨⟨Tryz.t238, _, by kernel_rfl, rfl, rfl, rfl, rfl, rfl, rfl⟩, ⟨_, Tryz.underlying238, ⟨_, _, _, rfl⟩⟩⟩
theorem Tryz.ty239 : TyOk Tryz.prog 239 (Tryz.tE 239) := ⟨⟨Tryz.t239, _, by kernel_rfl, rfl, rfl, rfl, rfl, rfl, rfl⟩, ⟨_, Tryz.underlying239, ⟨_, rfl, rfl⟩⟩⟩
theorem Tryz.ty240 : TyOk Tryz.prog 240 (Tryz.tE 240) := ⟨⟨Tryz.t240, _, by kernel_rfl, rfl, rfl, rfl, rfl, rfl, rfl⟩, ⟨_, Tryz.underlying240, ⟨_, rfl, rfl⟩⟩⟩
theorem Tryz.ty241 : TyOk Tryz.prog 241 (Tryz.tE 241) := ⟨⟨Tryz.t241, _, by kernel_rfl, rfl, rfl, rfl, rfl, rfl, rfl⟩, ⟨_, Tryz.underlying241, rfl⟩⟩
theorem Tryz.ty242 : TyOk Tryz.prog 242 (Tryz.tE 242) := ⟨⟨Tryz.t242, _, by kernel_rfl, rfl, rfl, rfl, rfl, rfl, rfl⟩, ⟨_, Tryz.underlying242, ⟨_, _, _, rfl⟩⟩⟩
theorem Tryz.ty243 : TyOk Tryz.prog 243 (Tryz.tE 243) := ⟨⟨Tryz.t243, _, by kernel_rfl, rfl, rfl, rfl, rfl, rfl, rfl⟩, ⟨_, Tryz.underlying243, ⟨_, _, _, rfl⟩⟩⟩
theorem Tryz.ty244 : TyOk Tryz.prog 244 (Tryz.tE 244) := ⟨⟨Tryz.t244, _, by kernel_rfl, rfl, rfl, rfl, rfl, rfl, rfl⟩, ⟨_, Tryz.underlying244, ⟨_, _, _, rfl⟩⟩⟩
theorem Tryz.ty245 : TyOk Tryz.prog 245 (Tryz.tE 245) := ⟨⟨Tryz.t245, _, by kernel_rfl, rfl, rfl, rfl, rfl, rfl, rfl⟩, ⟨_, Tryz.underlying245, rfl⟩⟩
theorem Tryz.ty246 : TyOk Tryz.prog 246 (Tryz.tE 246) := ⟨⟨Tryz.t246, _, by kernel_rfl, rfl, rfl, rfl, rfl, rfl, rfl⟩, ⟨_, Tryz.underlying246, rfl⟩⟩
theorem Tryz.ty247 : TyOk Tryz.prog 247 (Tryz.tE 247) := ⟨⟨Tryz.t247, _, by kernel_rfl, rfl, rfl, rfl, rfl, rfl, rfl⟩, ⟨_, Tryz.underlying247, rfl⟩⟩
theorem Tryz.ty248 : TyOk Tryz.prog 248 (Tryz.tE 248) := ⟨⟨Tryz.t248, _, by kernel_rfl, rfl, rfl, rfl, rfl, rfl, rfl⟩, ⟨_, Tryz.underlying248, rfl⟩⟩
theorem Tryz.ty249 : TyOk Tryz.prog 249 (Tryz.tE 249) := ⟨⟨Tryz.t249, _, by kernel_rfl, rfl, rfl, rfl, rfl, rfl, rfl⟩, ⟨_, Tryz.underlying249, rfl⟩⟩
theorem Tryz.ty250 : TyOk Tryz.prog 250 (Tryz.tE 250) := ⟨⟨Tryz.t250, _, by kernel_rfl, rfl, rfl, rfl, rfl, rfl, rfl⟩, ⟨_, Tryz.underlying250, rfl⟩⟩
theorem Tryz.ty251 : TyOk Tryz.prog 251 (Tryz.tE 251) := ⟨⟨Tryz.t251, _, by kernel_rfl, rfl, rfl, rfl, rfl, rfl, rfl⟩, ⟨_, Tryz.underlying251, rfl⟩⟩
theorem Tryz.ty252 : TyOk Tryz.prog 252 (Tryz.tE 252) := ⟨⟨Tryz.t252, _, by kernel_rfl, rfl, rfl, rfl, rfl, rfl, rfl⟩, ⟨_, Tryz.underlying252, rfl⟩⟩
theorem Tryz.ty253 : TyOk Tryz.prog 253 (Tryz.tE 253) := ⟨⟨Tryz.t253, _, by kernel_rfl, rfl, rfl, rfl, rfl, rfl, rfl⟩, ⟨_, Tryz.underlying253, rfl⟩⟩
theorem Tryz.ty254 : TyOk Tryz.prog 254 (Tryz.tE 254) := ⟨⟨Tryz.t254, _, by kernel_rfl, rfl, rfl, rfl, rfl, rfl, rfl⟩, ⟨_, Tryz.underlying254, rfl⟩⟩
theorem Tryz.ty255 : TyOk Tryz.prog 255 (Tryz.tE 255) := ⟨⟨Tryz.t255, _, by kernel_rfl, rfl, rfl, rfl, rfl, rfl, rfl⟩, ⟨_, Tryz.underlying255, ⟨_, _, _, rfl⟩⟩⟩
theorem Tryz.ty256 : TyOk Tryz.prog 256 (Tryz.tE 256) := ⟨⟨Tryz.t256, _, by kernel_rfl, rfl, rfl, rfl, rfl, rfl, rfl⟩, ⟨_, Tryz.underlying256, ⟨_, _, _, rfl⟩⟩⟩
theorem Tryz.ty257 : TyOk Tryz.prog 257 (Tryz.tE 257) := ⟨⟨Tryz.t257, _, by kernel_rfl, rfl, rfl, rfl, rfl, rfl, rfl⟩, ⟨_, Tryz.underlying257, ⟨_, _, _, rfl⟩⟩⟩
theorem Tryz.ty258 : TyOk Tryz.prog 258 (Tryz.tE 258) := ⟨⟨Tryz.t258, _, by kernel_rfl, rfl, rfl, rfl, rfl, rfl, rfl⟩, ⟨_, Tryz.underlying258, ⟨_, _, _, rfl⟩⟩⟩
theorem Tryz.ty259 : TyOk Tryz.prog 259 (Tryz.tE 259) := ⟨⟨Tryz.t259, _, by kernel_rfl, rfl, rfl, rfl, rfl, rfl, rfl⟩, ⟨_, Tryz.underlying259, ⟨_, _, _, rfl⟩⟩⟩
theorem Tryz.ty260 : TyOk Tryz.prog 260 (Tryz.tE 260) := ⟨⟨Tryz.t260, _, by kernel_rfl, rfl, rfl, rfl, rfl, rfl, rfl⟩, ⟨_, Tryz.underlying260, ⟨_, _, _, rfl⟩⟩⟩
theorem Tryz.ty261 : TyOk Tryz.prog 261 (Tryz.tE 261) := ⟨⟨Tryz.t261, _, by kernel_rfl, rfl, rfl, rfl, rfl, rfl, rfl⟩, ⟨_, Tryz.underlying261, ⟨_, _, _, rfl⟩⟩⟩
theorem Tryz.ty262 : TyOk Tryz.prog 262 (Tryz.tE 262) := ⟨⟨Tryz.t262, _, by kernel_rfl, rfl, rfl, rfl, rfl, rfl, rfl⟩, ⟨_, Tryz.underlying262, ⟨_, _, _, rfl⟩⟩⟩
theorem Tryz.ty263 : TyOk Tryz.prog 263 (Tryz.tE 263) := ⟨⟨Tryz.t263, _, by kernel_rfl, rfl, rfl, rfl, rfl, rfl, rfl⟩, ⟨_, Tryz.underlying263, ⟨_, _, _, rfl⟩⟩⟩
theorem Tryz.ty264 : TyOk Tryz.prog 264 (Tryz.tE 264) := ⟨⟨Tryz.t264, _, by kernel_rfl, rfl, rfl, rfl, rfl, rfl, rfl⟩, ⟨_, Tryz.underlying264, ⟨_, _, _, rfl⟩⟩⟩
theorem Tryz.ty265 : TyOk Tryz.prog 265 (Tryz.tE 265) := ⟨⟨Tryz.t265, _, by kernel_rfl, rfl, rfl, rfl, rfl, rfl, rfl⟩, ⟨_, Tryz.underlying265, ⟨_, _, _, rfl⟩⟩⟩
theorem Tryz.ty266 : TyOk Tryz.prog 266 (Tryz.tE 266) := ⟨⟨Tryz.t266, _, by kernel_rfl, rfl, rfl, rfl, rfl, rfl, rfl⟩, ⟨_, Tryz.underlying266, ⟨_, _, _, rfl⟩⟩⟩
theorem Tryz.ty267 : TyOk Tryz.prog 267 (Tryz.tE 267) := ⟨⟨Tryz.t267, _, by kernel_rfl, rfl, rfl, rfl, rfl, rfl, rfl⟩, ⟨_, Tryz.underlying267, rfl⟩⟩
theorem Tryz.ty268 : TyOk Tryz.prog 268 (Tryz.tE 268) := ⟨⟨Tryz.t268, _, by kernel_rfl, rfl, rfl, rfl, rfl, rfl, rfl⟩, ⟨_, Tryz.underlying268, ⟨_, _, _, rfl⟩⟩⟩
theorem Tryz.ty269 : TyOk Tryz.prog 269 (Tryz.tE 269) := ⟨⟨Tryz.t269, _, by kernel_rfl, rfl, rfl, rfl, rfl, rfl, rfl⟩, ⟨_, Tryz.underlying269, ⟨_, _, _, rfl⟩⟩⟩
theorem Tryz.ty270 : TyOk Tryz.prog 270 (Tryz.tE 270) := ⟨⟨Tryz.t270, _, by kernel_rfl, rfl, rfl, rfl, rfl, rfl, rfl⟩, ⟨_, Tryz.underlying270, ⟨_, _, _, rfl⟩⟩⟩
theorem Tryz.ty271 : TyOk Tryz.prog 271 (Tryz.tE 271) := ⟨⟨Tryz.t271, _, by kernel_rfl, rfl, rfl, rfl, rfl, rfl, rfl⟩, ⟨_, Tryz.underlying271, ⟨_, _, _, rfl⟩⟩⟩
theorem Tryz.ty272 : TyOk Tryz.prog 272 (Tryz.tE 272) := ⟨⟨Tryz.t272, _, by kernel_rfl, rfl, rfl, rfl, rfl, rfl, rfl⟩, ⟨_, Tryz.underlying272, ⟨_, _, _, rfl⟩⟩⟩
theorem Tryz.ty273 : TyOk Tryz.prog 273 (Tryz.tE 273) := ⟨⟨Tryz.t273, _, by kernel_rfl, rfl, rfl, rfl, rfl, rfl, rfl⟩, ⟨_, Tryz.underlying273, ⟨_, _, _, rfl⟩⟩⟩
theorem Tryz.ty274 : TyOk Tryz.prog 274 (Tryz.tE 274) := ⟨⟨Tryz.t274, _, by kernel_rfl, rfl, rfl, rfl, rfl, rfl, rfl⟩, ⟨_, Tryz.underlying274, ⟨_, _, _, rfl⟩⟩⟩
theorem Tryz.ty275 : TyOk Tryz.prog 275 (Tryz.tE 275) := ⟨⟨Tryz.t275, _, by kernel_rfl, rfl, rfl, rfl, rfl, rfl, rfl⟩, ⟨_, Tryz.underlying275, ⟨_, _, _, rfl⟩⟩⟩
theorem Tryz.ty276 : TyOk Tryz.prog 276 (Tryz.tE 276) := ⟨⟨Tryz.t276, _, by kernel_rfl, rfl, rfl, rfl, rfl, rfl, rfl⟩, ⟨_, Tryz.underlying276, rfl⟩⟩
theorem Tryz.ty277 : TyOk Tryz.prog 277 (Tryz.tE 277) := ⟨⟨Tryz.t277, _, by kernel_rfl, rfl, rfl, rfl, rfl, rfl, rfl⟩, ⟨_, Tryz.underlying277, ⟨_, _, _, rfl⟩⟩⟩
theorem Tryz.ty278 : TyOk Tryz.prog 278 (Tryz.tE 278) := ⟨⟨Tryz.t278, _, by kernel_rfl, rfl, rfl, rfl, rfl, rfl, rfl⟩, ⟨_, Tryz.underlying278, rfl⟩⟩
theorem Tryz.ty279 : TyOk Tryz.prog 279 (Tryz.tE 279) := ⟨⟨Tryz.t279, _, by kernel_rfl, rfl, rfl, rfl, rfl, rfl, rfl⟩, ⟨_, Tryz.underlying279, ⟨_, _, _, rfl⟩⟩⟩
theorem Tryz.ty280 : TyOk Tryz.prog 280 (Tryz.tE 280) := ⟨⟨Tryz.t280, _, by kernel_rfl, rfl, rfl, rfl, rfl, rfl, rfl⟩, ⟨_, Tryz.underlying280, rfl⟩⟩
theorem Tryz.ty281 : TyOk Tryz.prog 281 (Tryz.tE 281) := ⟨⟨Tryz.t281, _, by kernel_rfl, rfl, rfl, rfl, rfl, rfl, rfl⟩, ⟨_, Tryz.underlying281, ⟨_, _, _, rfl⟩⟩⟩
theorem Tryz.ty282 : TyOk Tryz.prog 282 (Tryz.tE 282) := ⟨⟨Tryz.t282, _, by kernel_rfl, rfl, rfl, rfl, rfl, rfl, rfl⟩, ⟨_, Tryz.underlying282, rfl⟩⟩
theorem Tryz.ty283 : TyOk Tryz.prog 283 (Tryz.tE 283) := ⟨⟨Tryz.t283, _, by kernel_rfl, rfl, rfl, rfl, rfl, rfl, rfl⟩, ⟨_, Tryz.underlying283, rfl⟩⟩
theorem Tryz.ty284 : TyOk Tryz.prog 284 (Tryz.tE 284) := ⟨⟨Tryz.t284, _, by kernel_rfl, rfl, rfl, rfl, rfl, rfl, rfl⟩, ⟨_, Tryz.underlying284, ⟨_, _, _, rfl⟩⟩⟩
theorem Tryz.ty285 : TyOk Tryz.prog 285 (Tryz.tE 285) := ⟨⟨Tryz.t285, _, by kernel_rfl, rfl, rfl, rfl, rfl, rfl, rfl⟩, ⟨_, Tryz.underlying285, ⟨_, _, _, rfl⟩⟩⟩
theorem Tryz.ty286 : TyOk Tryz.prog 286 (Tryz.tE 286) := ⟨⟨Tryz.t286, _, by kernel_rfl, rfl, rfl, rfl, rfl, rfl, rfl⟩, ⟨_, Tryz.underlying286, ⟨_, _, _, rfl⟩⟩⟩
theorem Tryz.ty287 : TyOk Tryz.prog 287 (Tryz.tE 287) := ⟨⟨Tryz.t287, _, by kernel_rfl, rfl, rfl, rfl, rfl, rfl, rfl⟩, ⟨_, Tryz.underlying287, ⟨_, _, _, rfl⟩⟩⟩
theorem Tryz.ty288 : TyOk Tryz.prog 288 (Tryz.tE 288) := ⟨⟨Tryz.t288, _, by kernel_rfl, rfl, rfl, rfl, rfl, rfl, rfl⟩, ⟨_, Tryz.underlying288, ⟨_, _, _, rfl⟩⟩⟩
theorem Tryz.ty289 : TyOk Tryz.prog 289 (Tryz.tE 289) := ⟨⟨Tryz.t289, _, by kernel_rfl, rfl, rfl, rfl, rfl, rfl, rfl⟩, ⟨_, Tryz.underlying289, ⟨_, _, _, rfl⟩⟩⟩
theorem Tryz.ty290 : TyOk Tryz.prog 290 (Tryz.tE 290) := ⟨⟨Tryz.t290, _, by kernel_rfl, rfl, rfl, rfl, rfl, rfl, rfl⟩, ⟨_, Tryz.underlying290, ⟨_, _, _, rfl⟩⟩⟩
theorem Tryz.ty291 : TyOk Tryz.prog 291 (Tryz.tE 291) := ⟨⟨Tryz.t291, _, by kernel_rfl, rfl, rfl, rfl, rfl, rfl, rfl⟩, ⟨_, Tryz.underlying291, rfl⟩⟩
theorem Tryz.ty293 : TyOk Tryz.prog 293 (Tryz.tE 293) := ⟨⟨Tryz.t293, _, by kernel_rfl, rfl, rfl, rfl, rfl, rfl, rfl⟩, ⟨_, Tryz.underlying293, ⟨_, _, _, rfl⟩⟩⟩
theorem Tryz.ty294 : TyOk Tryz.prog 294 (Tryz.tE 294) := ⟨⟨Tryz.t294, _, by kernel_rfl, rfl, rfl, rfl, rfl, rfl, rfl⟩, ⟨_, Tryz.underlying294, ⟨_, _, _, rfl⟩⟩⟩
theorem Tryz.ty295 : TyOk Tryz.prog 295 (Tryz.tE 295) := ⟨⟨Tryz.t295, _, by kernel_rfl, rfl, rfl, rfl, rfl, rfl, rfl⟩, ⟨_, Tryz.underlying295, ⟨_, _, _, rfl⟩⟩⟩
theorem Tryz.ty296 : TyOk Tryz.prog 296 (Tryz.tE 296) := ⟨⟨Tryz.t296, _, by kernel_rfl, rfl, rfl, rfl, rfl, rfl, rfl⟩, ⟨_, Tryz.underlying296, ⟨_, _, _, rfl⟩⟩⟩
theorem Tryz.ty297 : TyOk Tryz.prog 297 (Tryz.tE 297) := ⟨⟨Tryz.t297, _, by kernel_rfl, rfl, rfl, rfl, rfl, rfl, rfl⟩, ⟨_, Tryz.underlying297, rfl⟩⟩
theorem Tryz.ty298 : TyOk Tryz.prog 298 (Tryz.tE 298) := ⟨⟨Tryz.t298, _, by kernel_rfl, rfl, rfl, rfl, rfl, rfl, rfl⟩, ⟨_, Tryz.underlying298, rfl⟩⟩
theorem Tryz.ty299 : TyOk Tryz.prog 299 (Tryz.tE 299) := ⟨⟨Tryz.t299, _, by kernel_rfl, rfl, rfl, rfl, rfl, rfl, rfl⟩, ⟨_, Tryz.underlying299, rfl⟩⟩
theorem Tryz.ty300 : TyOk Tryz.prog 300 (Tryz.tE 300) := ⟨⟨Tryz.t300, _, by kernel_rfl, rfl, rfl, rfl, rfl, rfl, rfl⟩, ⟨_, Tryz.underlying300, ⟨_, _, _, rfl⟩⟩⟩
theorem Tryz.ty301 : TyOk Tryz.prog 301 (Tryz.tE 301) := ⟨⟨Tryz.t301, _, by kernel_rfl, rfl, rfl, rfl, rfl, rfl, rfl⟩, ⟨_, Tryz.underlying301, rfl⟩⟩
theorem Tryz.ty302 : TyOk Tryz.prog 302 (Tryz.tE 302) := ⟨⟨Tryz.t302, _, by kernel_rfl, rfl, rfl, rfl, rfl, rfl, rfl⟩, ⟨_, Tryz.underlying302, rfl⟩⟩
theorem Tryz.ty303 : TyOk Tryz.prog 303 (Tryz.tE 303) := ⟨⟨Tryz.t303, _, by kernel_rfl, rfl, rfl, rfl, rfl, rfl, rfl⟩, ⟨_, Tryz.underlying303, rfl⟩⟩
theorem Tryz.ty304 : TyOk Tryz.prog 304 (Tryz.tE 304) := ⟨⟨Tryz.t304, _, by kernel_rfl, rfl, rfl, rfl, rfl, rfl, rfl⟩, ⟨_, Tryz.underlying304, ⟨_, _, _, rfl⟩⟩⟩
theorem Tryz.ty305 : TyOk Tryz.prog 305 (Tryz.tE 305) := ⟨⟨Tryz.t305, _, by kernel_rfl, rfl, rfl, rfl, rfl, rfl, rfl⟩, ⟨_, Tryz.underlying305, ⟨_, _, _, rfl⟩⟩⟩
theorem Tryz.ty306 : TyOk Tryz.prog 306 (Tryz.tE 306) := ⟨⟨Tryz.t306, _, by kernel_rfl, rfl, rfl, rfl, rfl, rfl, rfl⟩, ⟨_, Tryz.underlying306, ⟨_, _, _, rfl⟩⟩⟩
theorem Tryz.ty307 : TyOk Tryz.prog 307 (Tryz.tE 307) := ⟨⟨Tryz.t307, _, by kernel_rfl, rfl, rfl, rfl, rfl, rfl, rfl⟩, ⟨_, Tryz.underlying307, ⟨_, _, _, rfl⟩⟩⟩
theorem Tryz.ty308 : TyOk Tryz.prog 308 (Tryz.tE 308) := ⟨⟨Tryz.t308, _, by kernel_rfl, rfl, rfl, rfl, rfl, rfl, rfl⟩, ⟨_, Tryz.underlying308, ⟨_, _, _, rfl⟩⟩⟩
theorem Tryz.ty309 : TyOk Tryz.prog 309 (Tryz.tE 309) := ⟨⟨Tryz.t309, _, by kernel_rfl, rfl, rfl, rfl, rfl, rfl, rfl⟩, ⟨_, Tryz.underlying309, ⟨_, _, _, rfl⟩⟩⟩
theorem Tryz.ty310 : TyOk Tryz.prog 310 (Tryz.tE 310) := ⟨⟨Tryz.t310, _, by kernel_rfl, rfl, rfl, rfl, rfl, rfl, rfl⟩, ⟨_, Tryz.underlying310, ⟨_, _, _, rfl⟩⟩⟩
theorem Tryz.ty311 : TyOk Tryz.prog 311 (Tryz.tE 311) := ⟨⟨Tryz.t311, _, by kernel_rfl, rfl, rfl, rfl, rfl, rfl, rfl⟩, ⟨_, Tryz.underlying311, rfl⟩⟩
theorem Tryz.ty312 : TyOk Tryz.prog 312 (Tryz.tE 312) := ⟨⟨Tryz.t312, _, by kernel_rfl, rfl, rfl, rfl, rfl, rfl, rfl⟩, ⟨_, Tryz.underlying312, ⟨_, _, _, rfl⟩⟩⟩
theorem Tryz.ty313 : TyOk Tryz.prog 313 (Tryz.tE 313) := ⟨⟨Tryz.t313, _, by kernel_rfl, rfl, rfl, rfl, rfl, rfl, rfl⟩, ⟨_, Tryz.underlying313, rfl⟩⟩
theorem Tryz.ty314 : TyOk Tryz.prog 314 (Tryz.tE 314) := ⟨⟨Tryz.t314, _, by kernel_rfl, rfl, rfl, rfl, rfl, rfl, rfl⟩, ⟨_, Tryz.underlying314, rfl⟩⟩
theorem Tryz.ty315 : TyOk Tryz.prog 315 (Tryz.tE 315) := ⟨⟨Tryz.t315, _, by kernel_rfl, rfl, rfl, rfl, rfl, rfl, rfl⟩, ⟨_, Tryz.underlying315, ⟨_, _, _, rfl⟩⟩⟩
theorem Tryz.ty316 : TyOk Tryz.prog 316 (Tryz.tE 316) := ⟨⟨Tryz.t316, _, by kernel_rfl, rfl, rfl, rfl, rfl, rfl, rfl⟩, ⟨_, Tryz.underlying316, rfl⟩⟩
theorem Tryz.ty318 : TyOk Tryz.prog 318 (Tryz.tE 318) := ⟨⟨Tryz.t318, _, by kernel_rfl, rfl, rfl, rfl, rfl, rfl, rfl⟩, ⟨_, Tryz.underlying318, ⟨_, _, _, rfl⟩⟩⟩
theorem Tryz.ty319 : TyOk Tryz.prog 319 (Tryz.tE 319) := ⟨⟨Tryz.t319, _, by kernel_rfl, rfl, rfl, rfl, rfl, rfl, rfl⟩, ⟨_, Tryz.underlying319, ⟨_, _, _, rfl⟩⟩⟩
theorem Tryz.ty320 : TyOk Tryz.prog 320 (Tryz.tE 320) := ⟨⟨Tryz.t320, _, by kernel_rfl, rfl, rfl, rfl, rfl, rfl, rfl⟩, ⟨_, Tryz.underlying320, ⟨_, rfl, rfl⟩⟩⟩
theorem Tryz.ty321 : TyOk Tryz.prog 321 (Tryz.tE 321) := ⟨⟨Tryz.t321, _, by kernel_rfl, rfl, rfl, rfl, rfl, rfl, rfl⟩, ⟨_, Tryz.underlying321, ⟨_, rfl, rfl⟩⟩⟩
theorem Tryz.ty322 : TyOk Tryz.prog 322 (Tryz.tE 322) := ⟨⟨Tryz.t322, _, by kernel_rfl, rfl, rfl, rfl, rfl, rfl, rfl⟩, ⟨_, Tryz.underlying322, rfl⟩⟩
theorem Tryz.ty323 : TyOk Tryz.prog 323 (Tryz.tE 323) := ⟨⟨Tryz.t323, _, by kernel_rfl, rfl, rfl, rfl, rfl, rfl, rfl⟩, ⟨_, Tryz.underlying323, ⟨_, rfl, rfl⟩⟩⟩
theorem Tryz.ty324 : TyOk Tryz.prog 324 (Tryz.tE 324) := ⟨⟨Tryz.t324, _, by kernel_rfl, rfl, rfl, rfl, rfl, rfl, rfl⟩, ⟨_, Tryz.underlying324, ⟨_, rfl, rfl⟩⟩⟩
theorem Tryz.ty325 : TyOk Tryz.prog 325 (Tryz.tE 325) := ⟨⟨Tryz.t325, _, by kernel_rfl, rfl, rfl, rfl, rfl, rfl, rfl⟩, ⟨_, Tryz.underlying325, ⟨_, _, _, rfl⟩⟩⟩
theorem Tryz.ty326 : TyOk Tryz.prog 326 (Tryz.tE 326) := ⟨⟨Tryz.t326, _, by kernel_rfl, rfl, rfl, rfl, rfl, rfl, rfl⟩, ⟨_, Tryz.underlying326, rfl⟩⟩
theorem Tryz.ty327 : TyOk Tryz.prog 327 (Tryz.tE 327) := ⟨⟨Tryz.t327, _, by kernel_rfl, rfl, rfl, rfl, rfl, rfl, rfl⟩, ⟨_, Tryz.underlying327, rfl⟩⟩
theorem Tryz.ty328 : TyOk Tryz.prog 328 (Tryz.tE 328) := ⟨⟨Tryz.t328, _, by kernel_rfl, rfl, rfl, rfl, rfl, rfl, rfl⟩, ⟨_, Tryz.underlying328, ⟨_, _, _, rfl⟩⟩⟩
theorem Tryz.ty329 : TyOk Tryz.prog 329 (Tryz.tE 329) := ⟨⟨Tryz.t329, _, by kernel_rfl, rfl, rfl, rfl, rfl, rfl, rfl⟩, ⟨_, Tryz.underlying329, rfl⟩⟩
theorem Tryz.ty330 : TyOk Tryz.prog 330 (Tryz.tE 330) := ⟨⟨Tryz.t330, _, by kernel_rfl, rfl, rfl, rfl, rfl, rfl, rfl⟩, ⟨_, Tryz.underlying330, rfl⟩⟩
theorem Tryz.ty331 : TyOk Tryz.prog 331 (Tryz.tE 331) := ⟨⟨Tryz.t331, _, by kernel_rfl, rfl, rfl, rfl, rfl, rfl, rfl⟩, ⟨_, Tryz.underlying331, rfl⟩⟩
theorem Tryz.ty332 : TyOk Tryz.prog 332 (Tryz.tE 332) := ⟨⟨Tryz.t332, _, by kernel_rfl, rfl, rfl, rfl, rfl, rfl, rfl⟩, ⟨_, Tryz.underlying332, ⟨_, rfl, rfl⟩⟩⟩
theorem Tryz.ty333 : TyOk Tryz.prog 333 (Tryz.tE 333) := ⟨⟨Tryz.t333, _, by kernel_rfl, rfl, rfl, rfl, rfl, rfl, rfl⟩, ⟨_, Tryz.underlying333, ⟨_, rfl, rfl⟩⟩⟩

theorem Tryz.tab : TabOk Tryz.prog Tryz.τ := by
  intro T e h
  have hL : AllOk Tryz.prog 0 Tryz.tL := by
    unfold Tryz.tL
    refine ⟨Tryz.ty1, ?_⟩
    refine ⟨Tryz.ty2, ?_⟩
    refine ⟨Tryz.ty3, ?_⟩
    refine ⟨Tryz.ty4, ?_⟩
    refine ⟨Tryz.ty5, ?_⟩
    refine ⟨Tryz.ty6, ?_⟩
    refine ⟨Tryz.ty7, ?_⟩
    refine ⟨Tryz.ty8, ?_⟩
    refine ⟨Tryz.ty9, ?_⟩
    refine ⟨Tryz.ty10, ?_⟩
    refine ⟨Tryz.ty11, ?_⟩
    refine ⟨Tryz.ty12, ?_⟩
    refine ⟨Tryz.ty13, ?_⟩
    refine ⟨Tryz.ty14, ?_⟩
    refine ⟨Tryz.ty15, ?_⟩
    refine ⟨Tryz.ty16, ?_⟩
    refine ⟨Tryz.ty17, ?_⟩
    refine ⟨Tryz.ty18, ?_⟩
    refine ⟨Tryz.ty19, ?_⟩
    refine ⟨Tryz.ty20, ?_⟩
    refine ⟨Tryz.ty21, ?_⟩
    refine ⟨Tryz.ty22, ?_⟩
    refine ⟨Tryz.ty23, ?_⟩
    refine ⟨Tryz.ty24, ?_⟩
    refine ⟨Tryz.ty25, ?_⟩
    refine ⟨Tryz.ty26, ?_⟩
    refine ⟨Tryz.ty27, ?_⟩
    refine ⟨Tryz.ty28, ?_⟩
    refine ⟨Tryz.ty29, ?_⟩
    refine ⟨Tryz.ty31, ?_⟩
    refine ⟨Tryz.ty32, ?_⟩
    refine ⟨Tryz.ty33, ?_⟩
    refine ⟨Tryz.ty34, ?_⟩
    refine ⟨Tryz.ty35, ?_⟩
    refine ⟨Tryz.ty36, ?_⟩
    refine ⟨Tryz.ty37, ?_⟩
    refine ⟨Tryz.ty38, ?_⟩
    refine ⟨Tryz.ty39, ?_⟩
    refine ⟨Tryz.ty40, ?_⟩
    refine ⟨Tryz.ty41, ?_⟩
    refine ⟨Tryz.ty42, ?_⟩
    refine ⟨Tryz.ty43, ?_⟩
    refine ⟨Tryz.ty44, ?_⟩
    refine ⟨Tryz.ty45, ?_⟩
    refine ⟨Tryz.ty46, ?_⟩
    refine ⟨Tryz.ty47, ?_⟩
    refine ⟨Tryz.ty48, ?_⟩
    refine ⟨Tryz.ty49, ?_⟩
    refine ⟨Tryz.ty50, ?_⟩
    refine ⟨Tryz.ty51, ?_⟩
    refine ⟨Tryz.ty52, ?_⟩
    refine ⟨Tryz.ty53, ?_⟩
    refine ⟨Tryz.ty54, ?_⟩
    refine ⟨Tryz.ty55, ?_⟩
    refine ⟨Tryz.ty56, ?_⟩
    refine ⟨Tryz.ty57, ?_⟩
    refine ⟨Tryz.ty58, ?_⟩
    refine ⟨Tryz.ty59, ?_⟩
    refine ⟨Tryz.ty60, ?_⟩
    refine ⟨Tryz.ty61, ?_⟩
    refine ⟨Tryz.ty62, ?_⟩
    refine ⟨Tryz.ty63, ?_⟩
    refine ⟨Tryz.ty64, ?_⟩
    refine ⟨Tryz.ty65, ?_⟩
    refine ⟨Tryz.ty66, ?_⟩
    refine ⟨Tryz.ty67, ?_⟩
    refine ⟨Tryz.ty68, ?_⟩
    refine ⟨Tryz.ty69, ?_⟩
    refine ⟨Tryz.ty70, ?_⟩
    refine ⟨Tryz.ty72, ?_⟩
    refine ⟨Tryz.ty73, ?_⟩
    refine ⟨Tryz.ty74, ?_⟩
    refine ⟨Tryz.ty75, ?_⟩
    refine ⟨Tryz.ty76, ?_⟩
    refine ⟨Tryz.ty77, ?_⟩
    refine ⟨Tryz.ty78, ?_⟩
    refine ⟨Tryz.ty79, ?_⟩
    refine ⟨Tryz.ty80, ?_⟩
    refine ⟨Tryz.ty81, ?_⟩
    refine ⟨Tryz.ty82, ?_⟩
    refine ⟨Tryz.ty83, ?_⟩
    refine ⟨Tryz.ty84, ?_⟩
    refine ⟨Tryz.ty85, ?_⟩
    refine ⟨Tryz.ty86, ?_⟩
    refine ⟨Tryz.ty87, ?_⟩
    refine ⟨Tryz.ty88, ?_⟩
    refine ⟨Tryz.ty89, ?_⟩
    refine ⟨Tryz.ty90, ?_⟩
    refine ⟨Tryz.ty91, ?_⟩
    refine ⟨Tryz.ty92, ?_⟩
    refine ⟨Tryz.ty93, ?_⟩
    refine ⟨Tryz.ty94, ?_⟩
    refine ⟨Tryz.ty95, ?_⟩
    refine ⟨Tryz.ty96, ?_⟩
    refine ⟨Tryz.ty97, ?_⟩
    refine ⟨Tryz.ty98, ?_⟩
    refine ⟨Tryz.ty99, ?_⟩
    refine ⟨Tryz.ty100, ?_⟩
    refine ⟨Tryz.ty101, ?_⟩
    refine ⟨Tryz.ty102, ?_⟩
    refine ⟨Tryz.ty103, ?_⟩
    refine ⟨Tryz.ty104, ?_⟩
    refine ⟨Tryz.ty105, ?_⟩
    refine ⟨Tryz.ty106, ?_⟩
    refine ⟨Tryz.ty107, ?_⟩
    refine ⟨Tryz.ty108, ?_⟩
    refine ⟨Tryz.ty109, ?_⟩
    refine ⟨Tryz.ty110, ?_⟩
    refine ⟨Tryz.ty111, ?_⟩
    refine ⟨Tryz.ty112, ?_⟩
    refine ⟨Tryz.ty113, ?_⟩
    refine ⟨Tryz.ty114, ?_⟩
    refine ⟨Tryz.ty115, ?_⟩
    refine ⟨Tryz.ty116, ?_⟩
    refine ⟨Tryz.ty117, ?_⟩
    refine ⟨Tryz.ty118, ?_⟩
    refine ⟨Tryz.ty119, ?_⟩
    refine ⟨Tryz.ty120, ?_⟩
    refine ⟨Tryz.ty121, ?_⟩
    refine ⟨Tryz.ty122, ?_⟩
    refine ⟨Tryz.ty123, ?_⟩
    refine ⟨Tryz.ty124, ?_⟩
    refine ⟨Tryz.ty125, ?_⟩
    refine ⟨Tryz.ty126, ?_⟩
    refine ⟨Tryz.ty127, ?_⟩
    refine ⟨Tryz.ty128, ?_⟩
    refine ⟨Tryz.ty129, ?_⟩
    refine ⟨Tryz.ty130, ?_⟩
    refine ⟨Tryz.ty131, ?_⟩
    refine ⟨Tryz.ty132, ?_⟩
    refine ⟨Tryz.ty133, ?_⟩
    refine ⟨Tryz.ty134, ?_⟩
    refine ⟨Tryz.ty135, ?_⟩
    refine ⟨Tryz.ty136, ?_⟩
    refine ⟨Tryz.ty137, ?_⟩
    refine ⟨Tryz.ty138, ?_⟩
    refine ⟨Tryz.ty139, ?_⟩
    refine ⟨Tryz.ty140, ?_⟩
    refine ⟨Tryz.ty141, ?_⟩
    refine ⟨Tryz.ty142, ?_⟩
    refine ⟨Tryz.ty143, ?_⟩
    refine ⟨Tryz.ty144, ?_⟩
    refine ⟨Tryz.ty145, ?_⟩
    refine ⟨Tryz.ty146, ?_⟩
    refine ⟨Tryz.ty147, ?_⟩
    refine ⟨Tryz.ty148, ?_⟩
    refine ⟨Tryz.ty149, ?_⟩
    refine ⟨Tryz.ty150, ?_⟩
    refine ⟨Tryz.ty151, ?_⟩
    refine ⟨Tryz.ty152, ?_⟩
    refine ⟨Tryz.ty153, ?_⟩
    refine ⟨Tryz.ty154, ?_⟩
    refine ⟨Tryz.ty155, ?_⟩
    refine ⟨Tryz.ty157, ?_⟩
    refine ⟨Tryz.ty158, ?_⟩
    refine ⟨Tryz.ty159, ?_⟩
    refine ⟨Tryz.ty160, ?_⟩
    refine ⟨Tryz.ty162, ?_⟩
    refine ⟨Tryz.ty163, ?_⟩
    refine ⟨Tryz.ty164, ?_⟩
    refine ⟨Tryz.ty165, ?_⟩
    refine ⟨Tryz.ty166, ?_⟩
    refine ⟨Tryz.ty167, ?_⟩
    refine ⟨Tryz.ty168, ?_⟩
    refine ⟨Tryz.ty170, ?_⟩
    refine ⟨Tryz.ty171, ?_⟩
    refine ⟨Tryz.ty172, ?_⟩
    refine ⟨Tryz.ty173, ?_⟩
    refine ⟨Tryz.ty174, ?_⟩
    refine ⟨Tryz.ty175, ?_⟩
    refine ⟨Tryz.ty176, ?_⟩
    refine ⟨Tryz.ty177, ?_⟩
    refine ⟨Tryz.ty178, ?_⟩
    refine ⟨Tryz.ty179, ?_⟩
    refine ⟨Tryz.ty180, ?_⟩
    refine ⟨Tryz.ty181, ?_⟩
    refine ⟨Tryz.ty182, ?_⟩
    refine ⟨Tryz.ty183, ?_⟩
    refine ⟨Tryz.ty184, ?_⟩
    refine ⟨Tryz.ty185, ?_⟩
    refine ⟨Tryz.ty186, ?_⟩
    refine ⟨Tryz.ty187, ?_⟩
    refine ⟨Tryz.ty188, ?_⟩
    refine ⟨Tryz.ty189, ?_⟩
    refine ⟨Tryz.ty190, ?_⟩
    refine ⟨Tryz.ty192, ?_⟩
    refine ⟨Tryz.ty193, ?_⟩
    refine ⟨Tryz.ty194, ?_⟩
    refine ⟨Tryz.ty195, ?_⟩
    refine ⟨Tryz.ty196, ?_⟩
    refine ⟨Tryz.ty197, ?_⟩
    refine ⟨Tryz.ty198, ?_⟩
    refine ⟨Tryz.ty199, ?_⟩
    refine ⟨Tryz.ty200, ?_⟩
    refine ⟨Tryz.ty201, ?_⟩
    refine ⟨Tryz.ty202, ?_⟩
    refine ⟨Tryz.ty204, ?_⟩
    refine ⟨Tryz.ty205, ?_⟩
    refine ⟨Tryz.ty206, ?_⟩
    refine ⟨Tryz.ty207, ?_⟩
    refine ⟨Tryz.ty208, ?_⟩
    refine ⟨Tryz.ty209, ?_⟩
    refine ⟨Tryz.ty210, ?_⟩
    refine ⟨Tryz.ty211, ?_⟩
    refine ⟨Tryz.ty212, ?_⟩
    refine ⟨Tryz.ty213, ?_⟩
    refine ⟨Tryz.ty214, ?_⟩
    refine ⟨Tryz.ty215, ?_⟩
    refine ⟨Tryz.ty216, ?_⟩
    refine ⟨Tryz.ty217, ?_⟩
    refine ⟨Tryz.ty218, ?_⟩
    refine ⟨Tryz.ty219, ?_⟩
    refine ⟨Tryz.ty220, ?_⟩
    refine ⟨Tryz.ty222, ?_⟩
    refine ⟨Tryz.ty223, ?_⟩
    refine ⟨Tryz.ty224, ?_⟩
    refine ⟨Tryz.ty225, ?_⟩
    refine ⟨Tryz.ty226, ?_⟩
    refine ⟨Tryz.ty227, ?_⟩
    refine ⟨Tryz.ty228, ?_⟩
    refine ⟨Tryz.ty229, ?_⟩
    refine ⟨Tryz.ty230, ?_⟩
    refine ⟨Tryz.ty231, ?_⟩
    refine ⟨Tryz.ty232, ?_⟩
    refine ⟨Tryz.ty233, ?_⟩
    refine ⟨Tryz.ty234, ?_⟩
    refine ⟨Tryz.ty235, ?_⟩
    refine ⟨Tryz.ty236, ?_⟩
    refine ⟨Tryz.ty237, ?_⟩
    refine ⟨Tryz.ty238, ?_⟩
    refine ⟨Tryz.ty239, ?_⟩
    refine ⟨Tryz.ty240, ?_⟩
    refine ⟨Tryz.ty241, ?_⟩
    refine ⟨Tryz.ty242, ?_⟩
    refine ⟨Tryz.ty243, ?_⟩
    refine ⟨Tryz.ty244, ?_⟩
    refine ⟨Tryz.ty245, ?_⟩
    refine ⟨Tryz.ty246, ?_⟩
    refine ⟨Tryz.ty247, ?_⟩
    refine ⟨Tryz.ty248, ?_⟩
    refine ⟨Tryz.ty249, ?_⟩
    refine ⟨Tryz.ty250, ?_⟩
    refine ⟨Tryz.ty251, ?_⟩
    refine ⟨Tryz.ty252, ?_⟩
    refine ⟨Tryz.ty253, ?_⟩
    refine ⟨Tryz.ty254, ?_⟩
    refine ⟨Tryz.ty255, ?_⟩
    refine ⟨Tryz.ty256, ?_⟩
    refine ⟨Tryz.ty257, ?_⟩
    refine ⟨Tryz.ty258, ?_⟩
    refine ⟨Tryz.ty259, ?_⟩
    refine ⟨Tryz.ty260, ?_⟩
    refine ⟨Tryz.ty261, ?_⟩
    refine ⟨Tryz.ty262, ?_⟩
    refine ⟨Tryz.ty263, ?_⟩
    refine ⟨Tryz.ty264, ?_⟩
    refine ⟨Tryz.ty265, ?_⟩
    refine ⟨Tryz.ty266, ?_⟩
    refine ⟨Tryz.ty267, ?_⟩
    refine ⟨Tryz.ty268, ?_⟩
    refine ⟨Tryz.ty269, ?_⟩
    refine ⟨Tryz.ty270, ?_⟩
    refine ⟨Tryz.ty271, ?_⟩
    refine ⟨Tryz.ty272, ?_⟩
    refine ⟨Tryz.ty273, ?_⟩
    refine ⟨Tryz.ty274, ?_⟩
    refine ⟨Tryz.ty275, ?_⟩
    refine ⟨Tryz.ty276, ?_⟩
    refine ⟨Tryz.ty277, ?_⟩
    refine ⟨Tryz.ty278, ?_⟩
    refine ⟨Tryz.ty279, ?_⟩
    refine ⟨Tryz.ty280, ?_⟩
    refine ⟨Tryz.ty281, ?_⟩
    refine ⟨Tryz.ty282, ?_⟩
    refine ⟨Tryz.ty283, ?_⟩
    refine ⟨Tryz.ty284, ?_⟩
    refine ⟨Tryz.ty285, ?_⟩
    refine ⟨Tryz.ty286, ?_⟩
    refine ⟨Tryz.ty287, ?_⟩
    refine ⟨Tryz.ty288, ?_⟩
    refine ⟨Tryz.ty289, ?_⟩
    refine ⟨Tryz.ty290, ?_⟩
    refine ⟨Tryz.ty291, ?_⟩
    refine ⟨Tryz.ty293, ?_⟩
    refine ⟨Tryz.ty294, ?_⟩
    refine ⟨Tryz.ty295, ?_⟩
    refine ⟨Tryz.ty296, ?_⟩
    refine ⟨Tryz.ty297, ?_⟩
    refine ⟨Tryz.ty298, ?_⟩
    refine ⟨Tryz.ty299, ?_⟩
    refine ⟨Tryz.ty300, ?_⟩
    refine ⟨Tryz.ty301, ?_⟩
    refine ⟨Tryz.ty302, ?_⟩
    refine ⟨Tryz.ty303, ?_⟩
    refine ⟨Tryz.ty304, ?_⟩
    refine ⟨Tryz.ty305, ?_⟩
    refine ⟨Tryz.ty306, ?_⟩
    refine ⟨Tryz.ty307, ?_⟩
    refine ⟨Tryz.ty308, ?_⟩
    refine ⟨Tryz.ty309, ?_⟩
    refine ⟨Tryz.ty310, ?_⟩
    refine ⟨Tryz.ty311, ?_⟩
    refine ⟨Tryz.ty312, ?_⟩
    refine ⟨Tryz.ty313, ?_⟩
    refine ⟨Tryz.ty314, ?_⟩
    refine ⟨Tryz.ty315, ?_⟩
    refine ⟨Tryz.ty316, ?_⟩
    refine ⟨Tryz.ty318, ?_⟩
    refine ⟨Tryz.ty319, ?_⟩
    refine ⟨Tryz.ty320, ?_⟩
    refine ⟨Tryz.ty321, ?_⟩
    refine ⟨Tryz.ty322, ?_⟩
    refine ⟨Tryz.ty323, ?_⟩
    refine ⟨Tryz.ty324, ?_⟩
    refine ⟨Tryz.ty325, ?_⟩
    refine ⟨Tryz.ty326, ?_⟩
    refine ⟨Tryz.ty327, ?_⟩
    refine ⟨Tryz.ty328, ?_⟩
    refine ⟨Tryz.ty329, ?_⟩
    refine ⟨Tryz.ty330, ?_⟩
    refine ⟨Tryz.ty331, ?_⟩
    refine ⟨Tryz.ty332, ?_⟩
    refine ⟨Tryz.ty333, ?_⟩
    exact trivial
  unfold Tryz.τ at h
  have h2 : Tryz.tL[T]? = some (some e) := by
    cases ht : Tryz.tL[T]? with
    | none => rw [ht] at h; cases h
    | some x => rw [ht] at h; exact congrArg some h
  have := AllOk.at _ 0 T e hL h2
  rwa [Nat.zero_add] at this

theorem Tryz.mixed : Tryz.prog.follows .mixedOrders = true := by kernel_rfl

theorem Tryz.body11 : Body Tryz.prog 11 := ⟨Tryz.f11, _, Tryz.func11, rfl, by kernel_rfl⟩
theorem Tryz.body13 : Body Tryz.prog 13 := ⟨Tryz.f13, _, Tryz.func13, rfl, by kernel_rfl⟩
theorem Tryz.body15 : Body Tryz.prog 15 := ⟨Tryz.f15, _, Tryz.func15, rfl, by kernel_rfl⟩
theorem Tryz.body16 : Body Tryz.prog 16 := ⟨Tryz.f16, _, Tryz.func16, rfl, by kernel_rfl⟩
theorem Tryz.body17 : Body Tryz.prog 17 := ⟨Tryz.f17, _, Tryz.func17, rfl, by kernel_rfl⟩
theorem Tryz.body18 : Body Tryz.prog 18 := ⟨Tryz.f18, _, Tryz.func18, rfl, by kernel_rfl⟩
theorem Tryz.body19 : Body Tryz.prog 19 := ⟨Tryz.f19, _, Tryz.func19, rfl, by kernel_rfl⟩
theorem Tryz.body20 : Body Tryz.prog 20 := ⟨Tryz.f20, _, Tryz.func20, rfl, by kernel_rfl⟩
theorem Tryz.body28 : Body Tryz.prog 28 := ⟨Tryz.f28, _, Tryz.func28, rfl, by kernel_rfl⟩
theorem Tryz.body29 : Body Tryz.prog 29 := ⟨Tryz.f29, _, Tryz.func29, rfl, by kernel_rfl⟩
theorem Tryz.body31 : Body Tryz.prog 31 := ⟨Tryz.f31, _, Tryz.func31, rfl, by kernel_rfl⟩
theorem Tryz.body32 : Body Tryz.prog 32 := ⟨Tryz.f32, _, Tryz.func32, rfl, by kernel_rfl⟩
theorem Tryz.body34 : Body Tryz.prog 34 := ⟨Tryz.f34, _, Tryz.func34, rfl, by kernel_rfl⟩
theorem Tryz.body35 : Body Tryz.prog 35 := ⟨Tryz.f35, _, Tryz.func35, rfl, by kernel_rfl⟩
theorem Tryz.body36 : Body Tryz.prog 36 := ⟨Tryz.f36, _, Tryz.func36, rfl, by kernel_rfl⟩
theorem Tryz.body37 : Body Tryz.prog 37 := ⟨Tryz.f37, _, Tryz.func37, rfl, by kernel_rfl⟩
theorem Tryz.body38 : Body Tryz.prog 38 := ⟨Tryz.f38, _, Tryz.func38, rfl, by kernel_rfl⟩
theorem Tryz.body39 : Body Tryz.prog 39 := ⟨Tryz.f39, _, Tryz.func39, rfl, by kernel_rfl⟩
theorem Tryz.body40 : Body Tryz.prog 40 := ⟨Tryz.f40, _, Tryz.func40, rfl, by kernel_rfl⟩
theorem Tryz.body41 : Body Tryz.prog 41 := ⟨Tryz.f41, _, Tryz.func41, rfl, by kernel_rfl⟩
theorem Tryz.body42 : Body Tryz.prog 42 := ⟨Tryz.f42, _, Tryz.func42, rfl, by kernel_rfl⟩
theorem Tryz.body43 : Body Tryz.prog 43 := ⟨Tryz.f43, _, Tryz.func43, rfl, by kernel_rfl⟩
theorem Tryz.body44 : Body Tryz.prog 44 := ⟨Tryz.f44, _, Tryz.func44, rfl, by kernel_rfl⟩
theorem Tryz.body53 : Body Tryz.prog 53 := ⟨Tryz.f53, _, Tryz.func53, rfl, by kernel_rfl⟩
theorem Tryz.body54 : Body Tryz.prog 54 := ⟨Tryz.f54, _, Tryz.func54, rfl, by kernel_rfl⟩
theorem Tryz.body56 : Body Tryz.prog 56 := ⟨Tryz.f56, _, Tryz.func56, rfl, by kernel_rfl⟩
theorem Tryz.body57 : Body Tryz.prog 57 := ⟨Tryz.f57, _, Tryz.func57, rfl, by kernel_rfl⟩
theorem Tryz.body58 : Body Tryz.prog 58 := ⟨Tryz.f58, _, Tryz.func58, rfl, by kernel_rfl⟩
theorem Tryz.body59 : Body Tryz.prog 59 := ⟨Tryz.f59, _, Tryz.func59, rfl, by kernel_rfl⟩
theorem Tryz.body61 : Body Tryz.prog 61 := ⟨Tryz.f61, _, Tryz.func61, rfl, by kernel_rfl⟩
theorem Tryz.body62 : Body Tryz.prog 62 := ⟨Tryz.f62, _, Tryz.func62, rfl, by kernel_rfl⟩
theorem Tryz.body63 : Body Tryz.prog 63 := ⟨Tryz.f63, _, Tryz.func63, rfl, by kernel_rfl⟩
theorem Tryz.body64 : Body Tryz.prog 64 := ⟨Tryz.f64, _, Tryz.func64, rfl, by kernel_rfl⟩
theorem Tryz.body65 : Body Tryz.prog 65 := ⟨Tryz.f65, _, Tryz.func65, rfl, by kernel_rfl⟩
theorem Tryz.body66 : Body Tryz.prog 66 := ⟨Tryz.f66, _, Tryz.func66, rfl, by kernel_rfl⟩
theorem Tryz.body67 : Body Tryz.prog 67 := ⟨Tryz.f67, _, Tryz.func67, rfl, by kernel_rfl⟩
theorem Tryz.body68 : Body Tryz.prog 68 := ⟨Tryz.f68, _, Tryz.func68, rfl, by kernel_rfl⟩
theorem Tryz.body69 : Body Tryz.prog 69 := ⟨Tryz.f69, _, Tryz.func69, rfl, by kernel_rfl⟩
theorem Tryz.body70 : Body Tryz.prog 70 := ⟨Tryz.f70, _, Tryz.func70, rfl, by kernel_rfl⟩
theorem Tryz.body71 : Body Tryz.prog 71 := ⟨Tryz.f71, _, Tryz.func71, rfl, by kernel_rfl⟩
theorem Tryz.body72 : Body Tryz.prog 72 := ⟨Tryz.f72, _, Tryz.func72, rfl, by kernel_rfl⟩
theorem Tryz.body73 : Body Tryz.prog 73 := ⟨Tryz.f73, _, Tryz.func73, rfl, by kernel_rfl⟩
theorem Tryz.body74 : Body Tryz.prog 74 := ⟨Tryz.f74, _, Tryz.func74, rfl, by kernel_rfl⟩
theorem Tryz.body88 : Body Tryz.prog 88 := ⟨Tryz.f88, _, Tryz.func88, rfl, by kernel_rfl⟩
theorem Tryz.body92 : Body Tryz.prog 92 := ⟨Tryz.f92, _, Tryz.func92, rfl, by kernel_rfl⟩
theorem Tryz.body93 : Body Tryz.prog 93 := ⟨Tryz.f93, _, Tryz.func93, rfl, by kernel_rfl⟩
theorem Tryz.body94 : Body Tryz.prog 94 := ⟨Tryz.f94, _, Tryz.func94, rfl, by kernel_rfl⟩
theorem Tryz.body98 : Body Tryz.prog 98 := ⟨Tryz.f98, _, Tryz.func98, rfl, by kernel_rfl⟩
theorem Tryz.body99 : Body Tryz.prog 99 := ⟨Tryz.f99, _, Tryz.func99, rfl, by kernel_rfl⟩
theorem Tryz.body100 : Body Tryz.prog 100 := ⟨Tryz.f100, _, Tryz.func100, rfl, by kernel_rfl⟩
theorem Tryz.body101 : Body Tryz.prog 101 := ⟨Tryz.f101, _, Tryz.func101, rfl, by kernel_rfl⟩
theorem Tryz.body102 : Body Tryz.prog 102 := ⟨Tryz.f102, _, Tryz.func102, rfl, by kernel_rfl⟩
theorem Tryz.body103 : Body Tryz.prog 103 := ⟨Tryz.f103, _, Tryz.func103, rfl, by kernel_rfl⟩
theorem Tryz.body104 : Body Tryz.prog 104 := ⟨Tryz.f104, _, Tryz.func104, rfl, by kernel_rfl⟩
theorem Tryz.body105 : Body Tryz.prog 105 := ⟨Tryz.f105, _, Tryz.func105, rfl, by kernel_rfl⟩
theorem Tryz.body106 : Body Tryz.prog 106 := ⟨Tryz.f106, _, Tryz.func106, rfl, by kernel_rfl⟩
theorem Tryz.body107 : Body Tryz.prog 107 := ⟨Tryz.f107, _, Tryz.func107, rfl, by kernel_rfl⟩
theorem Tryz.body108 : Body Tryz.prog 108 := ⟨Tryz.f108, _, Tryz.func108, rfl, by kernel_rfl⟩
theorem Tryz.body109 : Body Tryz.prog 109 := ⟨Tryz.f109, _, Tryz.func109, rfl, by kernel_rfl⟩
theorem Tryz.body110 : Body Tryz.prog 110 := ⟨Tryz.f110, _, Tryz.func110, rfl, by kernel_rfl⟩
theorem Tryz.body111 : Body Tryz.prog 111 := ⟨Tryz.f111, _, Tryz.func111, rfl, by kernel_rfl⟩
theorem Tryz.body112 : Body Tryz.prog 112 := ⟨Tryz.f112, _, Tryz.func112, rfl, by kernel_rfl⟩
theorem Tryz.body113 : Body Tryz.prog 113 := ⟨Tryz.f113, _, Tryz.func113, rfl, by kernel_rfl⟩
theorem Tryz.body114 : Body Tryz.prog 114 := ⟨Tryz.f114, _, Tryz.func114, rfl, by kernel_rfl⟩
theorem Tryz.body115 : Body Tryz.prog 115 := ⟨Tryz.f115, _, Tryz.func115, rfl, by kernel_rfl⟩
theorem Tryz.body130 : Body Tryz.prog 130 := ⟨Tryz.f130, _, Tryz.func130, rfl, by kernel_rfl⟩
theorem Tryz.body137 : Body Tryz.prog 137 := ⟨Tryz.f137, _, Tryz.func137, rfl, by kernel_rfl⟩
theorem Tryz.body140 : Body Tryz.prog 140 := ⟨Tryz.f140, _, Tryz.func140, rfl, by kernel_rfl⟩
theorem Tryz.body141 : Body Tryz.prog 141 := ⟨Tryz.f141, _, Tryz.func141, rfl, by kernel_rfl⟩
theorem Tryz.body142 : Body Tryz.prog 142 := ⟨Tryz.f142, _, Tryz.func142, rfl, by kernel_rfl⟩
theorem Tryz.body143 : Body Tryz.prog 143 := ⟨Tryz.f143, _, Tryz.func143, rfl, by kernel_rfl⟩
theorem Tryz.body145 : Body Tryz.prog 145 := ⟨Tryz.f145, _, Tryz.func145, rfl, by kernel_rfl⟩
theorem Tryz.body149 : Body Tryz.prog 149 := ⟨Tryz.f149, _, Tryz.func149, rfl, by kernel_rfl⟩
theorem Tryz.body155 : Body Tryz.prog 155 := ⟨Tryz.f155, _, Tryz.func155, rfl, by kernel_rfl⟩
theorem Tryz.body159 : Body Tryz.prog 159 := ⟨Tryz.f159, _, Tryz.func159, rfl, by kernel_rfl⟩
theorem Tryz.body169 : Body Tryz.prog 169 := ⟨Tryz.f169, _, Tryz.func169, rfl, by kernel_rfl⟩
theorem Tryz.body170 : Body Tryz.prog 170 := ⟨Tryz.f170, _, Tryz.func170, rfl, by kernel_rfl⟩
theorem Tryz.body173 : Body Tryz.prog 173 := ⟨Tryz.f173, _, Tryz.func173, rfl, by kernel_rfl⟩
theorem Tryz.body174 : Body Tryz.prog 174 := ⟨Tryz.f174, _, Tryz.func174, rfl, by kernel_rfl⟩
theorem Tryz.body175 : Body Tryz.prog 175 := ⟨Tryz.f175, _, Tryz.func175, rfl, by kernel_rfl⟩
theorem Tryz.body176 : Body Tryz.prog 176 := ⟨Tryz.f176, _, Tryz.func176, rfl, by kernel_rfl⟩
theorem Tryz.body177 : Body Tryz.prog 177 := ⟨Tryz.f177, _, Tryz.func177, rfl, by kernel_rfl⟩
theorem Tryz.body186 : Body Tryz.prog 186 := ⟨Tryz.f186, _, Tryz.func186, rfl, by kernel_rfl⟩
theorem Tryz.body212 : Body Tryz.prog 212 := ⟨Tryz.f212, _, Tryz.func212, rfl, by kernel_rfl⟩
theorem Tryz.body213 : Body Tryz.prog 213 := ⟨Tryz.f213, _, Tryz.func213, rfl, by kernel_rfl⟩
theorem Tryz.body214 : Body Tryz.prog 214 := ⟨Tryz.f214, _, Tryz.func214, rfl, by kernel_rfl⟩
theorem Tryz.body215 : Body Tryz.prog 215 := ⟨Tryz.f215, _, Tryz.func215, rfl, by kernel_rfl⟩
theorem Tryz.body216 : Body Tryz.prog 216 := ⟨Tryz.f216, _, Tryz.func216, rfl, by kernel_rfl⟩
theorem Tryz.body217 : Body Tryz.prog 217 := ⟨Tryz.f217, _, Tryz.func217, rfl, by kernel_rfl⟩
instance : Glob := ⟨fun
  | 12 => some [.v (.int .u32 1779033703), .v (.int .u32 3144134277), .v (.int .u32 1013904242), .v (.int .u32 2773480762), .v (.int .u32 1359893119), .v (.int .u32 2600822924), .v (.int .u32 528734635), .v (.int .u32 1541459225)]
  | 13 => some [.v (.int .u8 0), .v (.int .u8 1), .v (.int .u8 2), .v (.int .u8 3), .v (.int .u8 4), .v (.int .u8 5), .v (.int .u8 6), .v (.int .u8 7), .v (.int .u8 8), .v (.int .u8 9), .v (.int .u8 10), .v (.int .u8 11), .v (.int .u8 12), .v (.int .u8 13), .v (.int .u8 14), .v (.int .u8 15), .v (.int .u8 14), .v (.int .u8 10), .v (.int .u8 4), .v (.int .u8 8), .v (.int .u8 9), .v (.int .u8 15), .v (.int .u8 13), .v (.int .u8 6), .v (.int .u8 1), .v (.int .u8 12), .v (.int .u8 0), .v (.int .u8 2), .v (.int .u8 11), .v (.int .u8 7), .v (.int .u8 5), .v (.int .u8 3), .v (.int .u8 11), .v (.int .u8 8), .v (.int .u8 12), .v (.int .u8 0), .v (.int .u8 5), .v (.int .u8 2), .v (.int .u8 15), .v (.int .u8 13), .v (.int .u8 10), .v (.int .u8 14), .v (.int .u8 3), .v (.int .u8 6), .v (.int .u8 7), .v (.int .u8 1), .v (.int .u8 9), .v (.int .u8 4), .v (.int .u8 7), .v (.int .u8 9), .v (.int .u8 3), .v (.int .u8 1), .v (.int .u8 13), .v (.int .u8 12), .v (.int .u8 11), .v (.int .u8 14), .v (.int .u8 2), .v (.int .u8 6), .v (.int .u8 5), .v (.int .u8 10), .v (.int .u8 4), .v (.int .u8 0), .v (.int .u8 15), .v (.int .u8 8), .v (.int .u8 9), .v (.int .u8 0), .v (.int .u8 5), .v (.int .u8 7), .v (.int .u8 2), .v (.int .u8 4), .v (.int .u8 10), .v (.int .u8 15), .v (.int .u8 14), .v (.int .u8 1), .v (.int .u8 11), .v (.int .u8 12), .v (.int .u8 6), .v (.int .u8 8), .v (.int .u8 3), .v (.int .u8 13), .v (.int .u8 2), .v (.int .u8 12), .v (.int .u8 6), .v (.int .u8 10), .v (.int .u8 0), .v (.int .u8 11), .v (.int .u8 8), .v (.int .u8 3), .v (.int .u8 4), .v (.int .u8 13), .v (.int .u8 7), .v (.int .u8 5), .v (.int .u8 15), .v (.int .u8 14), .v (.int .u8 1), .v (.int .u8 9), .v (.int .u8 12), .v (.int .u8 5), .v (.int .u8 1), .v (.int .u8 15), .v (.int .u8 14), .v (.int .u8 13), .v (.int .u8 4), .v (.int .u8 10), .v (.int .u8 0), .v (.int .u8 7), .v (.int .u8 6), .v (.int .u8 3), .v (.int .u8 9), .v (.int .u8 2), .v (.int .u8 8), .v (.int .u8 11), .v (.int .u8 13), .v (.int .u8 11), .v (.int .u8 7), .v (.int .u8 14), .v (.int .u8 12), .v (.int .u8 1), .v (.int .u8 3), .v (.int .u8 9), .v (.int .u8 5), .v (.int .u8 0), .v (.int .u8 15), .v (.int .u8 4), .v (.int .u8 8), .v (.int .u8 6), .v (.int .u8 2), .v (.int .u8 10), .v (.int .u8 6), .v (.int .u8 15), .v (.int .u8 14), .v (.int .u8 9), .v (.int .u8 11), .v (.int .u8 3), .v (.int .u8 0), .v (.int .u8 8), .v (.int .u8 12), .v (.int .u8 2), .v (.int .u8 13), .v (.int .u8 7), .v (.int .u8 1), .v (.int .u8 4), .v (.int .u8 10), .v (.int .u8 5), .v (.int .u8 10), .v (.int .u8 2), .v (.int .u8 8), .v (.int .u8 4), .v (.int .u8 7), .v (.int .u8 6), .v (.int .u8 1), .v (.int .u8 5), .v (.int .u8 15), .v (.int .u8 11), .v (.int .u8 9), .v (.int .u8 14), .v (.int .u8 3), .v (.int .u8 12), .v (.int .u8 13), .v (.int .u8 0)]
  | 2 => some [.v (.int .i64 (-1099511627776)), .v (.int .i64 1099511627776)]
  | 6 => some [.v (.int .i64 0), .v (.int .i64 1099511627776)]
  | 1 => some [.v (.int .i64 1), .v (.int .i64 9999)]
  | 4 => some [.v (.int .i64 0), .v (.int .i64 39)]
  | 5 => some [.v (.int .i64 0), .v (.int .i64 255)]
  | 3 => some [.v (.int .i64 0), .v (.int .i64 1048576)]
  | 7 => some [.v (.int .i64 0), .v (.int .i64 255)]
  | 8 => some [.v (.int .i64 1), .v (.int .i64 1048576)]
  | 10 => some [.v (.int .i64 0), .v (.int .i64 31)]
  | 11 => some [.v (.int .i64 1), .v (.int .i64 1048576)]
  | 9 => some [.v (.int .i64 0), .v (.int .i64 1)]
  | _ => none⟩
@[simp] theorem Tryz.laid12 : (Glob.laid 12 : Option (List D)) = some [.v (.int .u32 1779033703), .v (.int .u32 3144134277), .v (.int .u32 1013904242), .v (.int .u32 2773480762), .v (.int .u32 1359893119), .v (.int .u32 2600822924), .v (.int .u32 528734635), .v (.int .u32 1541459225)] := rfl
@[simp] theorem Tryz.laid13 : (Glob.laid 13 : Option (List D)) = some [.v (.int .u8 0), .v (.int .u8 1), .v (.int .u8 2), .v (.int .u8 3), .v (.int .u8 4), .v (.int .u8 5), .v (.int .u8 6), .v (.int .u8 7), .v (.int .u8 8), .v (.int .u8 9), .v (.int .u8 10), .v (.int .u8 11), .v (.int .u8 12), .v (.int .u8 13), .v (.int .u8 14), .v (.int .u8 15), .v (.int .u8 14), .v (.int .u8 10), .v (.int .u8 4), .v (.int .u8 8), .v (.int .u8 9), .v (.int .u8 15), .v (.int .u8 13), .v (.int .u8 6), .v (.int .u8 1), .v (.int .u8 12), .v (.int .u8 0), .v (.int .u8 2), .v (.int .u8 11), .v (.int .u8 7), .v (.int .u8 5), .v (.int .u8 3), .v (.int .u8 11), .v (.int .u8 8), .v (.int .u8 12), .v (.int .u8 0), .v (.int .u8 5), .v (.int .u8 2), .v (.int .u8 15), .v (.int .u8 13), .v (.int .u8 10), .v (.int .u8 14), .v (.int .u8 3), .v (.int .u8 6), .v (.int .u8 7), .v (.int .u8 1), .v (.int .u8 9), .v (.int .u8 4), .v (.int .u8 7), .v (.int .u8 9), .v (.int .u8 3), .v (.int .u8 1), .v (.int .u8 13), .v (.int .u8 12), .v (.int .u8 11), .v (.int .u8 14), .v (.int .u8 2), .v (.int .u8 6), .v (.int .u8 5), .v (.int .u8 10), .v (.int .u8 4), .v (.int .u8 0), .v (.int .u8 15), .v (.int .u8 8), .v (.int .u8 9), .v (.int .u8 0), .v (.int .u8 5), .v (.int .u8 7), .v (.int .u8 2), .v (.int .u8 4), .v (.int .u8 10), .v (.int .u8 15), .v (.int .u8 14), .v (.int .u8 1), .v (.int .u8 11), .v (.int .u8 12), .v (.int .u8 6), .v (.int .u8 8), .v (.int .u8 3), .v (.int .u8 13), .v (.int .u8 2), .v (.int .u8 12), .v (.int .u8 6), .v (.int .u8 10), .v (.int .u8 0), .v (.int .u8 11), .v (.int .u8 8), .v (.int .u8 3), .v (.int .u8 4), .v (.int .u8 13), .v (.int .u8 7), .v (.int .u8 5), .v (.int .u8 15), .v (.int .u8 14), .v (.int .u8 1), .v (.int .u8 9), .v (.int .u8 12), .v (.int .u8 5), .v (.int .u8 1), .v (.int .u8 15), .v (.int .u8 14), .v (.int .u8 13), .v (.int .u8 4), .v (.int .u8 10), .v (.int .u8 0), .v (.int .u8 7), .v (.int .u8 6), .v (.int .u8 3), .v (.int .u8 9), .v (.int .u8 2), .v (.int .u8 8), .v (.int .u8 11), .v (.int .u8 13), .v (.int .u8 11), .v (.int .u8 7), .v (.int .u8 14), .v (.int .u8 12), .v (.int .u8 1), .v (.int .u8 3), .v (.int .u8 9), .v (.int .u8 5), .v (.int .u8 0), .v (.int .u8 15), .v (.int .u8 4), .v (.int .u8 8), .v (.int .u8 6), .v (.int .u8 2), .v (.int .u8 10), .v (.int .u8 6), .v (.int .u8 15), .v (.int .u8 14), .v (.int .u8 9), .v (.int .u8 11), .v (.int .u8 3), .v (.int .u8 0), .v (.int .u8 8), .v (.int .u8 12), .v (.int .u8 2), .v (.int .u8 13), .v (.int .u8 7), .v (.int .u8 1), .v (.int .u8 4), .v (.int .u8 10), .v (.int .u8 5), .v (.int .u8 10), .v (.int .u8 2), .v (.int .u8 8), .v (.int .u8 4), .v (.int .u8 7), .v (.int .u8 6), .v (.int .u8 1), .v (.int .u8 5), .v (.int .u8 15), .v (.int .u8 11), .v (.int .u8 9), .v (.int .u8 14), .v (.int .u8 3), .v (.int .u8 12), .v (.int .u8 13), .v (.int .u8 0)] := rfl
@[simp] theorem Tryz.laid2 : (Glob.laid 2 : Option (List D)) = some [.v (.int .i64 (-1099511627776)), .v (.int .i64 1099511627776)] := rfl
@[simp] theorem Tryz.laid6 : (Glob.laid 6 : Option (List D)) = some [.v (.int .i64 0), .v (.int .i64 1099511627776)] := rfl
@[simp] theorem Tryz.laid1 : (Glob.laid 1 : Option (List D)) = some [.v (.int .i64 1), .v (.int .i64 9999)] := rfl
@[simp] theorem Tryz.laid4 : (Glob.laid 4 : Option (List D)) = some [.v (.int .i64 0), .v (.int .i64 39)] := rfl
@[simp] theorem Tryz.laid5 : (Glob.laid 5 : Option (List D)) = some [.v (.int .i64 0), .v (.int .i64 255)] := rfl
@[simp] theorem Tryz.laid3 : (Glob.laid 3 : Option (List D)) = some [.v (.int .i64 0), .v (.int .i64 1048576)] := rfl
@[simp] theorem Tryz.laid7 : (Glob.laid 7 : Option (List D)) = some [.v (.int .i64 0), .v (.int .i64 255)] := rfl
@[simp] theorem Tryz.laid8 : (Glob.laid 8 : Option (List D)) = some [.v (.int .i64 1), .v (.int .i64 1048576)] := rfl
@[simp] theorem Tryz.laid10 : (Glob.laid 10 : Option (List D)) = some [.v (.int .i64 0), .v (.int .i64 31)] := rfl
@[simp] theorem Tryz.laid11 : (Glob.laid 11 : Option (List D)) = some [.v (.int .i64 1), .v (.int .i64 1048576)] := rfl
@[simp] theorem Tryz.laid9 : (Glob.laid 9 : Option (List D)) = some [.v (.int .i64 0), .v (.int .i64 1)] := rfl

end Go.Proofs.YtpamincphlfhlaaGreatDoor

namespace Go.Proofs.YtpamincphlfhlaaGreatDoor
open Go.Xe
/-- Of two claims the first by the usual means. -/
theorem aI {p q : Prop} (hq : q) (hp : p := by first | rfl | omega | decide | (simp; done) | (simp; omega) | (intro _ h; exact fcs_side h; done) | (intros; simp_all; done) | (intros; simp_all; omega)) : p ∧ q := ⟨hp, hq⟩
theorem wS {ds : Dn} {pn : Pn} {Q : Exit → St → Prop} {S : St} {x y : Code} (h : WP Tryz.prog ds pn x (seqQ Tryz.prog ds pn y Q) S) : WP Tryz.prog ds pn (.seq x y) Q S := WP.seq h
theorem wB {ds : Dn} {pn : Pn} {Q : Exit → St → Prop} {S : St} {id : Nat} {c : Code} (h : WP Tryz.prog ds pn c (blkQ id Q) S) : WP Tryz.prog ds pn (.block id c) Q S := WP.block h
theorem wR {ds : Dn} {pn : Pn} {Q : Exit → St → Prop} {S : St} {id : Nat} {l : List Oper} (h : vcOps Tryz.prog ds pn Tryz.τ (l.map (·.dst)) (fun _ S' => Q .normal S') l S []) : WP Tryz.prog ds pn (.region id l.toArray false) Q S := WP.region Tryz.tab h
theorem wD {ds : Dn} {pn : Pn} {Q : Exit → St → Prop} {S : St} {id : Nat} {l : List Oper} (h : vcOps Tryz.prog ds pn Tryz.τ (l.map (·.dst)) (fun tis S' => freshS S (tis.flatMap fun t => t.e.add) ∧ drawOkT (pn.zs.map (·.1)) (l.map (·.dst)) l (tis.map TI.ts) = true ∧ Q .normal S') l S []) : WP Tryz.prog ds pn (.region id l.toArray true) Q S := WP.draw Tryz.tab Tryz.mixed h
theorem cF {ds : Dn} {pn : Pn} {Q : Exit → St → Prop} {S : St} {o : Operand} {x y : Code} (he : S.ev o = .d (.v (.bool false))) (h : WP Tryz.prog ds pn y Q S) : WP Tryz.prog ds pn (.cond o x y) Q S := WP.cond (b := false) he (fun h => by cases h) (fun _ => h)
theorem cT {ds : Dn} {pn : Pn} {Q : Exit → St → Prop} {S : St} {o : Operand} {x y : Code} (he : S.ev o = .d (.v (.bool true))) (h : WP Tryz.prog ds pn x Q S) : WP Tryz.prog ds pn (.cond o x y) Q S := WP.cond (b := true) he (fun _ => h) (fun h => by cases h)
end Go.Proofs.YtpamincphlfhlaaGreatDoor
