/-
  The types of the seat, for the engine. Printed by seatgen.py.
-/
import Derived.Test.YtaplgjnlfleklaaDoorRows
import Derived.Test.YtaplgjnlfleklaaDoorK3
set_option linter.unusedVariables false
set_option linter.unusedSimpArgs false
set_option linter.unusedSectionVars false
namespace Go.Proofs.YtaplgjnlfleklaaDoor
open Go.Xe

def Tryd.tL : List (Option TE) := [
  none,
  some ⟨.func, 1, 8, [.nilFunc]⟩,
  some ⟨.int .i64, 1, 8, [.int .i64 0]⟩,
  some ⟨.int .i64, 1, 8, [.int .i64 0]⟩,
  some ⟨.bool, 1, 1, [.bool false]⟩,
  some ⟨.int .u8, 1, 1, [.int .u8 0]⟩,
  some ⟨.int .u8, 1, 1, [.int .u8 0]⟩,
  some ⟨.struct [(0, 2), (1, 3), (2, 4), (3, 6)], 4, 24, [.int .i64 0, .int .i64 0, .bool false, .int .u8 0]⟩,
  some ⟨.struct [(0, 2), (1, 3), (2, 4), (3, 6)], 4, 24, [.int .i64 0, .int .i64 0, .bool false, .int .u8 0]⟩,
  some ⟨.string, 1, 16, [.string { data := #[] }]⟩,
  some ⟨.string, 1, 16, [.string { data := #[] }]⟩,
  some ⟨.string, 1, 16, [.string { data := #[] }]⟩,
  some ⟨.int .u64, 1, 8, [.int .u64 0]⟩,
  some ⟨.struct [(0, 9), (1, 12)], 2, 24, [.string { data := #[] }, .int .u64 0]⟩,
  some ⟨.struct [(0, 9), (1, 12)], 2, 24, [.string { data := #[] }, .int .u64 0]⟩,
  some ⟨.ptr 221, 1, 8, [.pointer none]⟩,
  some ⟨.ptr 224, 1, 8, [.pointer none]⟩,
  some ⟨.ptr 233, 1, 8, [.pointer none]⟩,
  some ⟨.struct [(0, 17)], 1, 8, [.pointer none]⟩,
  some ⟨.struct [(0, 17)], 1, 8, [.pointer none]⟩,
  some ⟨.iface, 1, 16, [.nilIface]⟩,
  some ⟨.int .i32, 1, 4, [.int .i32 0]⟩,
  some ⟨.slice 5, 1, 24, [.slice none 0 0]⟩,
  some ⟨.struct [(0, 22), (1, 3), (2, 3)], 3, 40, [.slice none 0 0, .int .i64 0, .int .i64 0]⟩,
  some ⟨.struct [(0, 22), (1, 3), (2, 3)], 3, 40, [.slice none 0 0, .int .i64 0, .int .i64 0]⟩,
  some ⟨.struct [(0, 3), (1, 3), (2, 3), (3, 3), (4, 3), (5, 3), (6, 3), (7, 3)], 8, 64, [.int .i64 0, .int .i64 0, .int .i64 0, .int .i64 0, .int .i64 0, .int .i64 0, .int .i64 0, .int .i64 0]⟩,
  some ⟨.struct [(0, 3), (1, 3), (2, 3), (3, 3), (4, 3), (5, 3), (6, 3), (7, 3)], 8, 64, [.int .i64 0, .int .i64 0, .int .i64 0, .int .i64 0, .int .i64 0, .int .i64 0, .int .i64 0, .int .i64 0]⟩,
  some ⟨.struct [(0, 3), (1, 3), (2, 3), (3, 3)], 4, 32, [.int .i64 0, .int .i64 0, .int .i64 0, .int .i64 0]⟩,
  some ⟨.struct [(0, 3), (1, 3), (2, 3), (3, 3)], 4, 32, [.int .i64 0, .int .i64 0, .int .i64 0, .int .i64 0]⟩,
  some ⟨.struct [(0, 3), (1, 3), (2, 3), (3, 3), (4, 3)], 5, 40, [.int .i64 0, .int .i64 0, .int .i64 0, .int .i64 0, .int .i64 0]⟩,
  some ⟨.struct [(0, 3), (1, 3), (2, 3), (3, 3), (4, 3)], 5, 40, [.int .i64 0, .int .i64 0, .int .i64 0, .int .i64 0, .int .i64 0]⟩,
  some ⟨.struct [(0, 3), (1, 3), (2, 3), (3, 3), (4, 3), (5, 3), (6, 3), (7, 3)], 8, 64, [.int .i64 0, .int .i64 0, .int .i64 0, .int .i64 0, .int .i64 0, .int .i64 0, .int .i64 0, .int .i64 0]⟩,
  some ⟨.struct [(0, 3), (1, 3), (2, 3), (3, 3), (4, 3), (5, 3), (6, 3), (7, 3)], 8, 64, [.int .i64 0, .int .i64 0, .int .i64 0, .int .i64 0, .int .i64 0, .int .i64 0, .int .i64 0, .int .i64 0]⟩,
  some ⟨.struct [(0, 3), (1, 3), (2, 3), (3, 3)], 4, 32, [.int .i64 0, .int .i64 0, .int .i64 0, .int .i64 0]⟩,
  some ⟨.struct [(0, 3), (1, 3), (2, 3), (3, 3)], 4, 32, [.int .i64 0, .int .i64 0, .int .i64 0, .int .i64 0]⟩,
  some ⟨.struct [(0, 3), (1, 3), (2, 3), (3, 3)], 4, 32, [.int .i64 0, .int .i64 0, .int .i64 0, .int .i64 0]⟩,
  some ⟨.struct [(0, 3), (1, 3), (2, 3), (3, 3)], 4, 32, [.int .i64 0, .int .i64 0, .int .i64 0, .int .i64 0]⟩,
  some ⟨.struct [(0, 3), (1, 3)], 2, 16, [.int .i64 0, .int .i64 0]⟩,
  some ⟨.struct [(0, 3), (1, 3)], 2, 16, [.int .i64 0, .int .i64 0]⟩,
  some ⟨.struct [(0, 3), (1, 3), (2, 3), (3, 3)], 4, 32, [.int .i64 0, .int .i64 0, .int .i64 0, .int .i64 0]⟩,
  some ⟨.struct [(0, 3), (1, 3), (2, 3), (3, 3)], 4, 32, [.int .i64 0, .int .i64 0, .int .i64 0, .int .i64 0]⟩,
  some ⟨.struct [(0, 3), (1, 3), (2, 3), (3, 3)], 4, 32, [.int .i64 0, .int .i64 0, .int .i64 0, .int .i64 0]⟩,
  some ⟨.struct [(0, 3), (1, 3), (2, 3), (3, 3)], 4, 32, [.int .i64 0, .int .i64 0, .int .i64 0, .int .i64 0]⟩,
  some ⟨.struct [(0, 3), (1, 3), (2, 3), (3, 3), (4, 3), (5, 3)], 6, 48, [.int .i64 0, .int .i64 0, .int .i64 0, .int .i64 0, .int .i64 0, .int .i64 0]⟩,
  some ⟨.struct [(0, 3), (1, 3), (2, 3), (3, 3), (4, 3), (5, 3)], 6, 48, [.int .i64 0, .int .i64 0, .int .i64 0, .int .i64 0, .int .i64 0, .int .i64 0]⟩,
  some ⟨.struct [(0, 3), (1, 4)], 2, 16, [.int .i64 0, .bool false]⟩,
  some ⟨.struct [(0, 3), (1, 4)], 2, 16, [.int .i64 0, .bool false]⟩,
  some ⟨.struct [(0, 3), (1, 3)], 2, 16, [.int .i64 0, .int .i64 0]⟩,
  some ⟨.struct [(0, 3), (1, 3)], 2, 16, [.int .i64 0, .int .i64 0]⟩,
  some ⟨.struct [(0, 3), (1, 3), (2, 3), (3, 3), (4, 26), (12, 28), (16, 30), (21, 32), (29, 34), (33, 36), (37, 38), (39, 40), (43, 42), (47, 44), (53, 46), (55, 48)], 57, 456, [.int .i64 0, .int .i64 0, .int .i64 0, .int .i64 0, .int .i64 0, .int .i64 0, .int .i64 0, .int .i64 0, .int .i64 0, .int .i64 0, .int .i64 0, .int .i64 0, .int .i64 0, .int .i64 0, .int .i64 0, .int .i64 0, .int .i64 0, .int .i64 0, .int .i64 0, .int .i64 0, .int .i64 0, .int .i64 0, .int .i64 0, .int .i64 0, .int .i64 0, .int .i64 0, .int .i64 0, .int .i64 0, .int .i64 0, .int .i64 0, .int .i64 0, .int .i64 0, .int .i64 0, .int .i64 0, .int .i64 0, .int .i64 0, .int .i64 0, .int .i64 0, .int .i64 0, .int .i64 0, .int .i64 0, .int .i64 0, .int .i64 0, .int .i64 0, .int .i64 0, .int .i64 0, .int .i64 0, .int .i64 0, .int .i64 0, .int .i64 0, .int .i64 0, .int .i64 0, .int .i64 0, .int .i64 0, .bool false, .int .i64 0, .int .i64 0]⟩,
  some ⟨.struct [(0, 3), (1, 3), (2, 3), (3, 3), (4, 26), (12, 28), (16, 30), (21, 32), (29, 34), (33, 36), (37, 38), (39, 40), (43, 42), (47, 44), (53, 46), (55, 48)], 57, 456, [.int .i64 0, .int .i64 0, .int .i64 0, .int .i64 0, .int .i64 0, .int .i64 0, .int .i64 0, .int .i64 0, .int .i64 0, .int .i64 0, .int .i64 0, .int .i64 0, .int .i64 0, .int .i64 0, .int .i64 0, .int .i64 0, .int .i64 0, .int .i64 0, .int .i64 0, .int .i64 0, .int .i64 0, .int .i64 0, .int .i64 0, .int .i64 0, .int .i64 0, .int .i64 0, .int .i64 0, .int .i64 0, .int .i64 0, .int .i64 0, .int .i64 0, .int .i64 0, .int .i64 0, .int .i64 0, .int .i64 0, .int .i64 0, .int .i64 0, .int .i64 0, .int .i64 0, .int .i64 0, .int .i64 0, .int .i64 0, .int .i64 0, .int .i64 0, .int .i64 0, .int .i64 0, .int .i64 0, .int .i64 0, .int .i64 0, .int .i64 0, .int .i64 0, .int .i64 0, .int .i64 0, .int .i64 0, .bool false, .int .i64 0, .int .i64 0]⟩,
  some ⟨.func, 1, 8, [.nilFunc]⟩,
  some ⟨.func, 1, 8, [.nilFunc]⟩,
  some ⟨.array 32 5, 32, 32, [.int .u8 0, .int .u8 0, .int .u8 0, .int .u8 0, .int .u8 0, .int .u8 0, .int .u8 0, .int .u8 0, .int .u8 0, .int .u8 0, .int .u8 0, .int .u8 0, .int .u8 0, .int .u8 0, .int .u8 0, .int .u8 0, .int .u8 0, .int .u8 0, .int .u8 0, .int .u8 0, .int .u8 0, .int .u8 0, .int .u8 0, .int .u8 0, .int .u8 0, .int .u8 0, .int .u8 0, .int .u8 0, .int .u8 0, .int .u8 0, .int .u8 0, .int .u8 0]⟩,
  some ⟨.array 32 5, 32, 32, [.int .u8 0, .int .u8 0, .int .u8 0, .int .u8 0, .int .u8 0, .int .u8 0, .int .u8 0, .int .u8 0, .int .u8 0, .int .u8 0, .int .u8 0, .int .u8 0, .int .u8 0, .int .u8 0, .int .u8 0, .int .u8 0, .int .u8 0, .int .u8 0, .int .u8 0, .int .u8 0, .int .u8 0, .int .u8 0, .int .u8 0, .int .u8 0, .int .u8 0, .int .u8 0, .int .u8 0, .int .u8 0, .int .u8 0, .int .u8 0, .int .u8 0, .int .u8 0]⟩,
  some ⟨.int .i64, 1, 8, [.int .i64 0]⟩,
  none,
  some ⟨.func, 1, 8, [.nilFunc]⟩,
  some ⟨.slice 54, 1, 24, [.slice none 0 0]⟩,
  some ⟨.struct [(0, 3), (1, 58), (2, 58), (3, 58)], 4, 80, [.int .i64 0, .slice none 0 0, .slice none 0 0, .slice none 0 0]⟩,
  some ⟨.struct [(0, 3), (1, 58), (2, 58), (3, 58)], 4, 80, [.int .i64 0, .slice none 0 0, .slice none 0 0, .slice none 0 0]⟩,
  some ⟨.struct [(0, 50), (57, 60)], 61, 536, [.int .i64 0, .int .i64 0, .int .i64 0, .int .i64 0, .int .i64 0, .int .i64 0, .int .i64 0, .int .i64 0, .int .i64 0, .int .i64 0, .int .i64 0, .int .i64 0, .int .i64 0, .int .i64 0, .int .i64 0, .int .i64 0, .int .i64 0, .int .i64 0, .int .i64 0, .int .i64 0, .int .i64 0, .int .i64 0, .int .i64 0, .int .i64 0, .int .i64 0, .int .i64 0, .int .i64 0, .int .i64 0, .int .i64 0, .int .i64 0, .int .i64 0, .int .i64 0, .int .i64 0, .int .i64 0, .int .i64 0, .int .i64 0, .int .i64 0, .int .i64 0, .int .i64 0, .int .i64 0, .int .i64 0, .int .i64 0, .int .i64 0, .int .i64 0, .int .i64 0, .int .i64 0, .int .i64 0, .int .i64 0, .int .i64 0, .int .i64 0, .int .i64 0, .int .i64 0, .int .i64 0, .int .i64 0, .bool false, .int .i64 0, .int .i64 0, .int .i64 0, .slice none 0 0, .slice none 0 0, .slice none 0 0]⟩,
  some ⟨.struct [(0, 50), (57, 60)], 61, 536, [.int .i64 0, .int .i64 0, .int .i64 0, .int .i64 0, .int .i64 0, .int .i64 0, .int .i64 0, .int .i64 0, .int .i64 0, .int .i64 0, .int .i64 0, .int .i64 0, .int .i64 0, .int .i64 0, .int .i64 0, .int .i64 0, .int .i64 0, .int .i64 0, .int .i64 0, .int .i64 0, .int .i64 0, .int .i64 0, .int .i64 0, .int .i64 0, .int .i64 0, .int .i64 0, .int .i64 0, .int .i64 0, .int .i64 0, .int .i64 0, .int .i64 0, .int .i64 0, .int .i64 0, .int .i64 0, .int .i64 0, .int .i64 0, .int .i64 0, .int .i64 0, .int .i64 0, .int .i64 0, .int .i64 0, .int .i64 0, .int .i64 0, .int .i64 0, .int .i64 0, .int .i64 0, .int .i64 0, .int .i64 0, .int .i64 0, .int .i64 0, .int .i64 0, .int .i64 0, .int .i64 0, .int .i64 0, .bool false, .int .i64 0, .int .i64 0, .int .i64 0, .slice none 0 0, .slice none 0 0, .slice none 0 0]⟩,
  none,
  some ⟨.func, 1, 8, [.nilFunc]⟩,
  some ⟨.func, 1, 8, [.nilFunc]⟩,
  some ⟨.slice 68, 1, 24, [.slice none 0 0]⟩,
  some ⟨.struct [(0, 54), (32, 3)], 33, 40, [.int .u8 0, .int .u8 0, .int .u8 0, .int .u8 0, .int .u8 0, .int .u8 0, .int .u8 0, .int .u8 0, .int .u8 0, .int .u8 0, .int .u8 0, .int .u8 0, .int .u8 0, .int .u8 0, .int .u8 0, .int .u8 0, .int .u8 0, .int .u8 0, .int .u8 0, .int .u8 0, .int .u8 0, .int .u8 0, .int .u8 0, .int .u8 0, .int .u8 0, .int .u8 0, .int .u8 0, .int .u8 0, .int .u8 0, .int .u8 0, .int .u8 0, .int .u8 0, .int .i64 0]⟩,
  some ⟨.struct [(0, 54), (32, 3)], 33, 40, [.int .u8 0, .int .u8 0, .int .u8 0, .int .u8 0, .int .u8 0, .int .u8 0, .int .u8 0, .int .u8 0, .int .u8 0, .int .u8 0, .int .u8 0, .int .u8 0, .int .u8 0, .int .u8 0, .int .u8 0, .int .u8 0, .int .u8 0, .int .u8 0, .int .u8 0, .int .u8 0, .int .u8 0, .int .u8 0, .int .u8 0, .int .u8 0, .int .u8 0, .int .u8 0, .int .u8 0, .int .u8 0, .int .u8 0, .int .u8 0, .int .u8 0, .int .u8 0, .int .i64 0]⟩,
  some ⟨.func, 1, 8, [.nilFunc]⟩,
  some ⟨.func, 1, 8, [.nilFunc]⟩,
  some ⟨.func, 1, 8, [.nilFunc]⟩,
  some ⟨.func, 1, 8, [.nilFunc]⟩,
  some ⟨.slice 62, 1, 24, [.slice none 0 0]⟩,
  some ⟨.func, 1, 8, [.nilFunc]⟩,
  some ⟨.int .u64, 1, 8, [.int .u64 0]⟩,
  some ⟨.slice 79, 1, 24, [.slice none 0 0]⟩,
  some ⟨.func, 1, 8, [.nilFunc]⟩,
  some ⟨.struct [(0, 62), (61, 62)], 122, 1072, [.int .i64 0, .int .i64 0, .int .i64 0, .int .i64 0, .int .i64 0, .int .i64 0, .int .i64 0, .int .i64 0, .int .i64 0, .int .i64 0, .int .i64 0, .int .i64 0, .int .i64 0, .int .i64 0, .int .i64 0, .int .i64 0, .int .i64 0, .int .i64 0, .int .i64 0, .int .i64 0, .int .i64 0, .int .i64 0, .int .i64 0, .int .i64 0, .int .i64 0, .int .i64 0, .int .i64 0, .int .i64 0, .int .i64 0, .int .i64 0, .int .i64 0, .int .i64 0, .int .i64 0, .int .i64 0, .int .i64 0, .int .i64 0, .int .i64 0, .int .i64 0, .int .i64 0, .int .i64 0, .int .i64 0, .int .i64 0, .int .i64 0, .int .i64 0, .int .i64 0, .int .i64 0, .int .i64 0, .int .i64 0, .int .i64 0, .int .i64 0, .int .i64 0, .int .i64 0, .int .i64 0, .int .i64 0, .bool false, .int .i64 0, .int .i64 0, .int .i64 0, .slice none 0 0, .slice none 0 0, .slice none 0 0, .int .i64 0, .int .i64 0, .int .i64 0, .int .i64 0, .int .i64 0, .int .i64 0, .int .i64 0, .int .i64 0, .int .i64 0, .int .i64 0, .int .i64 0, .int .i64 0, .int .i64 0, .int .i64 0, .int .i64 0, .int .i64 0, .int .i64 0, .int .i64 0, .int .i64 0, .int .i64 0, .int .i64 0, .int .i64 0, .int .i64 0, .int .i64 0, .int .i64 0, .int .i64 0, .int .i64 0, .int .i64 0, .int .i64 0, .int .i64 0, .int .i64 0, .int .i64 0, .int .i64 0, .int .i64 0, .int .i64 0, .int .i64 0, .int .i64 0, .int .i64 0, .int .i64 0, .int .i64 0, .int .i64 0, .int .i64 0, .int .i64 0, .int .i64 0, .int .i64 0, .int .i64 0, .int .i64 0, .int .i64 0, .int .i64 0, .int .i64 0, .int .i64 0, .int .i64 0, .int .i64 0, .int .i64 0, .bool false, .int .i64 0, .int .i64 0, .int .i64 0, .slice none 0 0, .slice none 0 0, .slice none 0 0]⟩,
  some ⟨.struct [(0, 62), (61, 62)], 122, 1072, [.int .i64 0, .int .i64 0, .int .i64 0, .int .i64 0, .int .i64 0, .int .i64 0, .int .i64 0, .int .i64 0, .int .i64 0, .int .i64 0, .int .i64 0, .int .i64 0, .int .i64 0, .int .i64 0, .int .i64 0, .int .i64 0, .int .i64 0, .int .i64 0, .int .i64 0, .int .i64 0, .int .i64 0, .int .i64 0, .int .i64 0, .int .i64 0, .int .i64 0, .int .i64 0, .int .i64 0, .int .i64 0, .int .i64 0, .int .i64 0, .int .i64 0, .int .i64 0, .int .i64 0, .int .i64 0, .int .i64 0, .int .i64 0, .int .i64 0, .int .i64 0, .int .i64 0, .int .i64 0, .int .i64 0, .int .i64 0, .int .i64 0, .int .i64 0, .int .i64 0, .int .i64 0, .int .i64 0, .int .i64 0, .int .i64 0, .int .i64 0, .int .i64 0, .int .i64 0, .int .i64 0, .int .i64 0, .bool false, .int .i64 0, .int .i64 0, .int .i64 0, .slice none 0 0, .slice none 0 0, .slice none 0 0, .int .i64 0, .int .i64 0, .int .i64 0, .int .i64 0, .int .i64 0, .int .i64 0, .int .i64 0, .int .i64 0, .int .i64 0, .int .i64 0, .int .i64 0, .int .i64 0, .int .i64 0, .int .i64 0, .int .i64 0, .int .i64 0, .int .i64 0, .int .i64 0, .int .i64 0, .int .i64 0, .int .i64 0, .int .i64 0, .int .i64 0, .int .i64 0, .int .i64 0, .int .i64 0, .int .i64 0, .int .i64 0, .int .i64 0, .int .i64 0, .int .i64 0, .int .i64 0, .int .i64 0, .int .i64 0, .int .i64 0, .int .i64 0, .int .i64 0, .int .i64 0, .int .i64 0, .int .i64 0, .int .i64 0, .int .i64 0, .int .i64 0, .int .i64 0, .int .i64 0, .int .i64 0, .int .i64 0, .int .i64 0, .int .i64 0, .int .i64 0, .int .i64 0, .int .i64 0, .int .i64 0, .int .i64 0, .bool false, .int .i64 0, .int .i64 0, .int .i64 0, .slice none 0 0, .slice none 0 0, .slice none 0 0]⟩,
  some ⟨.func, 1, 8, [.nilFunc]⟩,
  some ⟨.func, 1, 8, [.nilFunc]⟩,
  some ⟨.func, 1, 8, [.nilFunc]⟩,
  some ⟨.func, 1, 8, [.nilFunc]⟩,
  some ⟨.func, 1, 8, [.nilFunc]⟩,
  some ⟨.func, 1, 8, [.nilFunc]⟩,
  some ⟨.func, 1, 8, [.nilFunc]⟩,
  none,
  some ⟨.func, 1, 8, [.nilFunc]⟩,
  some ⟨.func, 1, 8, [.nilFunc]⟩,
  some ⟨.slice 3, 1, 24, [.slice none 0 0]⟩,
  none,
  some ⟨.func, 1, 8, [.nilFunc]⟩,
  some ⟨.func, 1, 8, [.nilFunc]⟩,
  some ⟨.func, 1, 8, [.nilFunc]⟩,
  some ⟨.map 104 73, 1, 8, [.map none]⟩,
  some ⟨.map 104 73, 1, 8, [.map none]⟩,
  some ⟨.func, 1, 8, [.nilFunc]⟩,
  some ⟨.func, 1, 8, [.nilFunc]⟩,
  some ⟨.func, 1, 8, [.nilFunc]⟩,
  some ⟨.func, 1, 8, [.nilFunc]⟩,
  some ⟨.func, 1, 8, [.nilFunc]⟩,
  some ⟨.func, 1, 8, [.nilFunc]⟩,
  some ⟨.struct [(0, 3), (1, 3)], 2, 16, [.int .i64 0, .int .i64 0]⟩,
  some ⟨.struct [(0, 3), (1, 3)], 2, 16, [.int .i64 0, .int .i64 0]⟩,
  some ⟨.func, 1, 8, [.nilFunc]⟩,
  some ⟨.func, 1, 8, [.nilFunc]⟩,
  some ⟨.func, 1, 8, [.nilFunc]⟩,
  some ⟨.func, 1, 8, [.nilFunc]⟩,
  some ⟨.func, 1, 8, [.nilFunc]⟩,
  some ⟨.func, 1, 8, [.nilFunc]⟩,
  some ⟨.func, 1, 8, [.nilFunc]⟩,
  some ⟨.func, 1, 8, [.nilFunc]⟩,
  some ⟨.struct [(0, 22), (1, 3)], 2, 32, [.slice none 0 0, .int .i64 0]⟩,
  some ⟨.struct [(0, 22), (1, 3)], 2, 32, [.slice none 0 0, .int .i64 0]⟩,
  none,
  some ⟨.func, 1, 8, [.nilFunc]⟩,
  some ⟨.array 64 4, 64, 64, [.bool false, .bool false, .bool false, .bool false, .bool false, .bool false, .bool false, .bool false, .bool false, .bool false, .bool false, .bool false, .bool false, .bool false, .bool false, .bool false, .bool false, .bool false, .bool false, .bool false, .bool false, .bool false, .bool false, .bool false, .bool false, .bool false, .bool false, .bool false, .bool false, .bool false, .bool false, .bool false, .bool false, .bool false, .bool false, .bool false, .bool false, .bool false, .bool false, .bool false, .bool false, .bool false, .bool false, .bool false, .bool false, .bool false, .bool false, .bool false, .bool false, .bool false, .bool false, .bool false, .bool false, .bool false, .bool false, .bool false, .bool false, .bool false, .bool false, .bool false, .bool false, .bool false, .bool false, .bool false]⟩,
  some ⟨.array 64 4, 64, 64, [.bool false, .bool false, .bool false, .bool false, .bool false, .bool false, .bool false, .bool false, .bool false, .bool false, .bool false, .bool false, .bool false, .bool false, .bool false, .bool false, .bool false, .bool false, .bool false, .bool false, .bool false, .bool false, .bool false, .bool false, .bool false, .bool false, .bool false, .bool false, .bool false, .bool false, .bool false, .bool false, .bool false, .bool false, .bool false, .bool false, .bool false, .bool false, .bool false, .bool false, .bool false, .bool false, .bool false, .bool false, .bool false, .bool false, .bool false, .bool false, .bool false, .bool false, .bool false, .bool false, .bool false, .bool false, .bool false, .bool false, .bool false, .bool false, .bool false, .bool false, .bool false, .bool false, .bool false, .bool false]⟩,
  some ⟨.func, 1, 8, [.nilFunc]⟩,
  none,
  some ⟨.func, 1, 8, [.nilFunc]⟩,
  some ⟨.slice 134, 1, 24, [.slice none 0 0]⟩,
  some ⟨.struct [(0, 122), (1, 51)], 2, 32, [.slice none 0 0, .nilFunc]⟩,
  some ⟨.struct [(0, 122), (1, 51)], 2, 32, [.slice none 0 0, .nilFunc]⟩,
  none,
  some ⟨.func, 1, 8, [.nilFunc]⟩,
  some ⟨.ptr 50, 1, 8, [.pointer none]⟩,
  some ⟨.ptr 3, 1, 8, [.pointer none]⟩,
  some ⟨.func, 1, 8, [.nilFunc]⟩,
  some ⟨.func, 1, 8, [.nilFunc]⟩,
  some ⟨.struct [(0, 3), (1, 3)], 2, 16, [.int .i64 0, .int .i64 0]⟩,
  some ⟨.struct [(0, 3), (1, 3)], 2, 16, [.int .i64 0, .int .i64 0]⟩,
  some ⟨.struct [(0, 128), (1, 132)], 3, 24, [.pointer none, .int .i64 0, .int .i64 0]⟩,
  some ⟨.struct [(0, 128), (1, 132)], 3, 24, [.pointer none, .int .i64 0, .int .i64 0]⟩,
  some ⟨.func, 1, 8, [.nilFunc]⟩,
  none,
  some ⟨.func, 1, 8, [.nilFunc]⟩,
  some ⟨.func, 1, 8, [.nilFunc]⟩,
  some ⟨.func, 1, 8, [.nilFunc]⟩,
  some ⟨.func, 1, 8, [.nilFunc]⟩,
  some ⟨.func, 1, 8, [.nilFunc]⟩,
  some ⟨.slice 104, 1, 24, [.slice none 0 0]⟩,
  some ⟨.func, 1, 8, [.nilFunc]⟩,
  some ⟨.func, 1, 8, [.nilFunc]⟩,
  some ⟨.func, 1, 8, [.nilFunc]⟩,
  some ⟨.func, 1, 8, [.nilFunc]⟩,
  some ⟨.func, 1, 8, [.nilFunc]⟩,
  some ⟨.func, 1, 8, [.nilFunc]⟩,
  some ⟨.func, 1, 8, [.nilFunc]⟩,
  some ⟨.func, 1, 8, [.nilFunc]⟩,
  some ⟨.func, 1, 8, [.nilFunc]⟩,
  some ⟨.func, 1, 8, [.nilFunc]⟩,
  some ⟨.func, 1, 8, [.nilFunc]⟩,
  some ⟨.func, 1, 8, [.nilFunc]⟩,
  some ⟨.slice 157, 1, 24, [.slice none 0 0]⟩,
  some ⟨.struct [(0, 3), (1, 3), (2, 9), (3, 155)], 4, 56, [.int .i64 0, .int .i64 0, .string { data := #[] }, .slice none 0 0]⟩,
  some ⟨.struct [(0, 3), (1, 3), (2, 9), (3, 155)], 4, 56, [.int .i64 0, .int .i64 0, .string { data := #[] }, .slice none 0 0]⟩,
  some ⟨.func, 1, 8, [.nilFunc]⟩,
  some ⟨.ptr 26, 1, 8, [.pointer none]⟩,
  some ⟨.ptr 28, 1, 8, [.pointer none]⟩,
  some ⟨.ptr 30, 1, 8, [.pointer none]⟩,
  some ⟨.ptr 32, 1, 8, [.pointer none]⟩,
  some ⟨.ptr 34, 1, 8, [.pointer none]⟩,
  some ⟨.ptr 36, 1, 8, [.pointer none]⟩,
  some ⟨.ptr 38, 1, 8, [.pointer none]⟩,
  some ⟨.ptr 40, 1, 8, [.pointer none]⟩,
  some ⟨.ptr 42, 1, 8, [.pointer none]⟩,
  some ⟨.ptr 44, 1, 8, [.pointer none]⟩,
  some ⟨.slice 4, 1, 24, [.slice none 0 0]⟩,
  some ⟨.func, 1, 8, [.nilFunc]⟩,
  some ⟨.func, 1, 8, [.nilFunc]⟩,
  some ⟨.func, 1, 8, [.nilFunc]⟩,
  some ⟨.func, 1, 8, [.nilFunc]⟩,
  some ⟨.int .u32, 1, 4, [.int .u32 0]⟩,
  some ⟨.array 8 174, 8, 32, [.int .u32 0, .int .u32 0, .int .u32 0, .int .u32 0, .int .u32 0, .int .u32 0, .int .u32 0, .int .u32 0]⟩,
  some ⟨.int .u64, 1, 8, [.int .u64 0]⟩,
  some ⟨.func, 1, 8, [.nilFunc]⟩,
  some ⟨.ptr 175, 1, 8, [.pointer none]⟩,
  some ⟨.slice 22, 1, 24, [.slice none 0 0]⟩,
  some ⟨.func, 1, 8, [.nilFunc]⟩,
  some ⟨.func, 1, 8, [.nilFunc]⟩,
  some ⟨.func, 1, 8, [.nilFunc]⟩,
  some ⟨.func, 1, 8, [.nilFunc]⟩,
  some ⟨.func, 1, 8, [.nilFunc]⟩,
  some ⟨.struct [(0, 184)], 1, 8, [.nilFunc]⟩,
  some ⟨.struct [(0, 184)], 1, 8, [.nilFunc]⟩,
  some ⟨.ptr 204, 1, 8, [.pointer none]⟩,
  some ⟨.func, 1, 8, [.nilFunc]⟩,
  some ⟨.func, 1, 8, [.nilFunc]⟩,
  some ⟨.int .i64, 1, 8, [.int .i64 0]⟩,
  none,
  some ⟨.func, 1, 8, [.nilFunc]⟩,
  some ⟨.func, 1, 8, [.nilFunc]⟩,
  some ⟨.func, 1, 8, [.nilFunc]⟩,
  some ⟨.func, 1, 8, [.nilFunc]⟩,
  some ⟨.array 16 174, 16, 64, [.int .u32 0, .int .u32 0, .int .u32 0, .int .u32 0, .int .u32 0, .int .u32 0, .int .u32 0, .int .u32 0, .int .u32 0, .int .u32 0, .int .u32 0, .int .u32 0, .int .u32 0, .int .u32 0, .int .u32 0, .int .u32 0]⟩,
  some ⟨.array 16 174, 16, 64, [.int .u32 0, .int .u32 0, .int .u32 0, .int .u32 0, .int .u32 0, .int .u32 0, .int .u32 0, .int .u32 0, .int .u32 0, .int .u32 0, .int .u32 0, .int .u32 0, .int .u32 0, .int .u32 0, .int .u32 0, .int .u32 0]⟩,
  some ⟨.slice 174, 1, 24, [.slice none 0 0]⟩,
  some ⟨.func, 1, 8, [.nilFunc]⟩,
  some ⟨.array 16 5, 16, 16, [.int .u8 0, .int .u8 0, .int .u8 0, .int .u8 0, .int .u8 0, .int .u8 0, .int .u8 0, .int .u8 0, .int .u8 0, .int .u8 0, .int .u8 0, .int .u8 0, .int .u8 0, .int .u8 0, .int .u8 0, .int .u8 0]⟩,
  some ⟨.array 10 200, 160, 160, [.int .u8 0, .int .u8 0, .int .u8 0, .int .u8 0, .int .u8 0, .int .u8 0, .int .u8 0, .int .u8 0, .int .u8 0, .int .u8 0, .int .u8 0, .int .u8 0, .int .u8 0, .int .u8 0, .int .u8 0, .int .u8 0, .int .u8 0, .int .u8 0, .int .u8 0, .int .u8 0, .int .u8 0, .int .u8 0, .int .u8 0, .int .u8 0, .int .u8 0, .int .u8 0, .int .u8 0, .int .u8 0, .int .u8 0, .int .u8 0, .int .u8 0, .int .u8 0, .int .u8 0, .int .u8 0, .int .u8 0, .int .u8 0, .int .u8 0, .int .u8 0, .int .u8 0, .int .u8 0, .int .u8 0, .int .u8 0, .int .u8 0, .int .u8 0, .int .u8 0, .int .u8 0, .int .u8 0, .int .u8 0, .int .u8 0, .int .u8 0, .int .u8 0, .int .u8 0, .int .u8 0, .int .u8 0, .int .u8 0, .int .u8 0, .int .u8 0, .int .u8 0, .int .u8 0, .int .u8 0, .int .u8 0, .int .u8 0, .int .u8 0, .int .u8 0, .int .u8 0, .int .u8 0, .int .u8 0, .int .u8 0, .int .u8 0, .int .u8 0, .int .u8 0, .int .u8 0, .int .u8 0, .int .u8 0, .int .u8 0, .int .u8 0, .int .u8 0, .int .u8 0, .int .u8 0, .int .u8 0, .int .u8 0, .int .u8 0, .int .u8 0, .int .u8 0, .int .u8 0, .int .u8 0, .int .u8 0, .int .u8 0, .int .u8 0, .int .u8 0, .int .u8 0, .int .u8 0, .int .u8 0, .int .u8 0, .int .u8 0, .int .u8 0, .int .u8 0, .int .u8 0, .int .u8 0, .int .u8 0, .int .u8 0, .int .u8 0, .int .u8 0, .int .u8 0, .int .u8 0, .int .u8 0, .int .u8 0, .int .u8 0, .int .u8 0, .int .u8 0, .int .u8 0, .int .u8 0, .int .u8 0, .int .u8 0, .int .u8 0, .int .u8 0, .int .u8 0, .int .u8 0, .int .u8 0, .int .u8 0, .int .u8 0, .int .u8 0, .int .u8 0, .int .u8 0, .int .u8 0, .int .u8 0, .int .u8 0, .int .u8 0, .int .u8 0, .int .u8 0, .int .u8 0, .int .u8 0, .int .u8 0, .int .u8 0, .int .u8 0, .int .u8 0, .int .u8 0, .int .u8 0, .int .u8 0, .int .u8 0, .int .u8 0, .int .u8 0, .int .u8 0, .int .u8 0, .int .u8 0, .int .u8 0, .int .u8 0, .int .u8 0, .int .u8 0, .int .u8 0, .int .u8 0, .int .u8 0, .int .u8 0, .int .u8 0, .int .u8 0, .int .u8 0, .int .u8 0, .int .u8 0, .int .u8 0, .int .u8 0]⟩,
  some ⟨.func, 1, 8, [.nilFunc]⟩,
  some ⟨.array 4 186, 4, 32, [.nilFunc, .nilFunc, .nilFunc, .nilFunc]⟩,
  some ⟨.array 4 186, 4, 32, [.nilFunc, .nilFunc, .nilFunc, .nilFunc]⟩,
  some ⟨.func, 1, 8, [.nilFunc]⟩,
  some ⟨.func, 1, 8, [.nilFunc]⟩,
  some ⟨.func, 1, 8, [.nilFunc]⟩,
  some ⟨.int .u64, 1, 8, [.int .u64 0]⟩,
  some ⟨.func, 1, 8, [.nilFunc]⟩,
  some ⟨.func, 1, 8, [.nilFunc]⟩,
  some ⟨.func, 1, 8, [.nilFunc]⟩,
  some ⟨.func, 1, 8, [.nilFunc]⟩,
  some ⟨.ptr 197, 1, 8, [.pointer none]⟩,
  some ⟨.func, 1, 8, [.nilFunc]⟩,
  some ⟨.array 4 4, 4, 4, [.bool false, .bool false, .bool false, .bool false]⟩,
  some ⟨.ptr 208, 1, 8, [.pointer none]⟩,
  none,
  some ⟨.func, 1, 8, [.nilFunc]⟩,
  some ⟨.func, 1, 8, [.nilFunc]⟩,
  some ⟨.struct [(0, 17), (1, 17), (2, 17), (3, 9)], 4, 40, [.pointer none, .pointer none, .pointer none, .string { data := #[] }]⟩,
  some ⟨.struct [(0, 17), (1, 17), (2, 17), (3, 9)], 4, 40, [.pointer none, .pointer none, .pointer none, .string { data := #[] }]⟩,
  some ⟨.array 0 16, 0, 0, []⟩,
  some ⟨.struct [(0, 222)], 0, 0, []⟩,
  some ⟨.struct [(0, 222)], 0, 0, []⟩,
  some ⟨.func, 1, 8, [.nilFunc]⟩,
  some ⟨.int .u8, 1, 1, [.int .u8 0]⟩,
  some ⟨.int .u8, 1, 1, [.int .u8 0]⟩,
  some ⟨.func, 1, 8, [.nilFunc]⟩,
  some ⟨.ptr 5, 1, 8, [.pointer none]⟩,
  some ⟨.int .i32, 1, 4, [.int .i32 0]⟩,
  some ⟨.int .i32, 1, 4, [.int .i32 0]⟩,
  some ⟨.struct [(0, 12), (1, 12), (2, 174), (3, 226), (4, 5), (5, 5), (6, 227), (7, 228), (8, 229), (9, 230), (10, 231)], 11, 48, [.int .u64 0, .int .u64 0, .int .u32 0, .int .u8 0, .int .u8 0, .int .u8 0, .int .u8 0, .nilFunc, .pointer none, .int .i32 0, .int .i32 0]⟩,
  some ⟨.struct [(0, 12), (1, 12), (2, 174), (3, 226), (4, 5), (5, 5), (6, 227), (7, 228), (8, 229), (9, 230), (10, 231)], 11, 48, [.int .u64 0, .int .u64 0, .int .u32 0, .int .u8 0, .int .u8 0, .int .u8 0, .int .u8 0, .nilFunc, .pointer none, .int .i32 0, .int .i32 0]⟩]
def Tryd.τ : Tab := fun T => Tryd.tL[T]?.bind id

def AllOk (P : Program) : Nat → List (Option TE) → Prop
  | _, [] => True
  | n, none :: l => AllOk P (n + 1) l
  | n, some e :: l => TyOk P n e ∧ AllOk P (n + 1) l
theorem AllOk.at {P : Program} : ∀ (l : List (Option TE)) (n i : Nat) (e : TE), AllOk P n l → l[i]? = some (some e) → TyOk P (n + i) e
  | [], _, _, _, _, h => by simp at h
  | none :: l, n, 0, _, _, h => by simp at h
  | none :: l, n, i + 1, e, h, hi => by have := AllOk.at l (n + 1) i e h (by simpa using hi); rwa [Nat.add_assoc, Nat.add_comm 1 i] at this
  | some d :: l, n, 0, e, h, hi => by simp at hi; subst hi; exact h.1
  | some d :: l, n, i + 1, e, h, hi => by have := AllOk.at l (n + 1) i e h.2 (by simpa using hi); rwa [Nat.add_assoc, Nat.add_comm 1 i] at this
@[simp] theorem Tryd.τ1 : Tryd.τ 1 = some ⟨.func, 1, 8, [.nilFunc]⟩ := rfl
@[simp] theorem Tryd.τ2 : Tryd.τ 2 = some ⟨.int .i64, 1, 8, [.int .i64 0]⟩ := rfl
@[simp] theorem Tryd.τ3 : Tryd.τ 3 = some ⟨.int .i64, 1, 8, [.int .i64 0]⟩ := rfl
@[simp] theorem Tryd.τ4 : Tryd.τ 4 = some ⟨.bool, 1, 1, [.bool false]⟩ := rfl
@[simp] theorem Tryd.τ5 : Tryd.τ 5 = some ⟨.int .u8, 1, 1, [.int .u8 0]⟩ := rfl
@[simp] theorem Tryd.τ6 : Tryd.τ 6 = some ⟨.int .u8, 1, 1, [.int .u8 0]⟩ := rfl
@[simp] theorem Tryd.τ7 : Tryd.τ 7 = some ⟨.struct [(0, 2), (1, 3), (2, 4), (3, 6)], 4, 24, [.int .i64 0, .int .i64 0, .bool false, .int .u8 0]⟩ := rfl
@[simp] theorem Tryd.τ8 : Tryd.τ 8 = some ⟨.struct [(0, 2), (1, 3), (2, 4), (3, 6)], 4, 24, [.int .i64 0, .int .i64 0, .bool false, .int .u8 0]⟩ := rfl
@[simp] theorem Tryd.τ9 : Tryd.τ 9 = some ⟨.string, 1, 16, [.string { data := #[] }]⟩ := rfl
@[simp] theorem Tryd.τ10 : Tryd.τ 10 = some ⟨.string, 1, 16, [.string { data := #[] }]⟩ := rfl
@[simp] theorem Tryd.τ11 : Tryd.τ 11 = some ⟨.string, 1, 16, [.string { data := #[] }]⟩ := rfl
@[simp] theorem Tryd.τ12 : Tryd.τ 12 = some ⟨.int .u64, 1, 8, [.int .u64 0]⟩ := rfl
@[simp] theorem Tryd.τ13 : Tryd.τ 13 = some ⟨.struct [(0, 9), (1, 12)], 2, 24, [.string { data := #[] }, .int .u64 0]⟩ := rfl
@[simp] theorem Tryd.τ14 : Tryd.τ 14 = some ⟨.struct [(0, 9), (1, 12)], 2, 24, [.string { data := #[] }, .int .u64 0]⟩ := rfl
@[simp] theorem Tryd.τ15 : Tryd.τ 15 = some ⟨.ptr 221, 1, 8, [.pointer none]⟩ := rfl
@[simp] theorem Tryd.τ16 : Tryd.τ 16 = some ⟨.ptr 224, 1, 8, [.pointer none]⟩ := rfl
@[simp] theorem Tryd.τ17 : Tryd.τ 17 = some ⟨.ptr 233, 1, 8, [.pointer none]⟩ := rfl
@[simp] theorem Tryd.τ18 : Tryd.τ 18 = some ⟨.struct [(0, 17)], 1, 8, [.pointer none]⟩ := rfl
@[simp] theorem Tryd.τ19 : Tryd.τ 19 = some ⟨.struct [(0, 17)], 1, 8, [.pointer none]⟩ := rfl
@[simp] theorem Tryd.τ20 : Tryd.τ 20 = some ⟨.iface, 1, 16, [.nilIface]⟩ := rfl
@[simp] theorem Tryd.τ21 : Tryd.τ 21 = some ⟨.int .i32, 1, 4, [.int .i32 0]⟩ := rfl
@[simp] theorem Tryd.τ22 : Tryd.τ 22 = some ⟨.slice 5, 1, 24, [.slice none 0 0]⟩ := rfl
@[simp] theorem Tryd.τ23 : Tryd.τ 23 = some ⟨.struct [(0, 22), (1, 3), (2, 3)], 3, 40, [.slice none 0 0, .int .i64 0, .int .i64 0]⟩ := rfl
@[simp] theorem Tryd.τ24 : Tryd.τ 24 = some ⟨.struct [(0, 22), (1, 3), (2, 3)], 3, 40, [.slice none 0 0, .int .i64 0, .int .i64 0]⟩ := rfl
@[simp] theorem Tryd.τ25 : Tryd.τ 25 = some ⟨.struct [(0, 3), (1, 3), (2, 3), (3, 3), (4, 3), (5, 3), (6, 3), (7, 3)], 8, 64, [.int .i64 0, .int .i64 0, .int .i64 0, .int .i64 0, .int .i64 0, .int .i64 0, .int .i64 0, .int .i64 0]⟩ := rfl
@[simp] theorem Tryd.τ26 : Tryd.τ 26 = some ⟨.struct [(0, 3), (1, 3), (2, 3), (3, 3), (4, 3), (5, 3), (6, 3), (7, 3)], 8, 64, [.int .i64 0, .int .i64 0, .int .i64 0, .int .i64 0, .int .i64 0, .int .i64 0, .int .i64 0, .int .i64 0]⟩ := rfl
@[simp] theorem Tryd.τ27 : Tryd.τ 27 = some ⟨.struct [(0, 3), (1, 3), (2, 3), (3, 3)], 4, 32, [.int .i64 0, .int .i64 0, .int .i64 0, .int .i64 0]⟩ := rfl
@[simp] theorem Tryd.τ28 : Tryd.τ 28 = some ⟨.struct [(0, 3), (1, 3), (2, 3), (3, 3)], 4, 32, [.int .i64 0, .int .i64 0, .int .i64 0, .int .i64 0]⟩ := rfl
@[simp] theorem Tryd.τ29 : Tryd.τ 29 = some ⟨.struct [(0, 3), (1, 3), (2, 3), (3, 3), (4, 3)], 5, 40, [.int .i64 0, .int .i64 0, .int .i64 0, .int .i64 0, .int .i64 0]⟩ := rfl
@[simp] theorem Tryd.τ30 : Tryd.τ 30 = some ⟨.struct [(0, 3), (1, 3), (2, 3), (3, 3), (4, 3)], 5, 40, [.int .i64 0, .int .i64 0, .int .i64 0, .int .i64 0, .int .i64 0]⟩ := rfl
@[simp] theorem Tryd.τ31 : Tryd.τ 31 = some ⟨.struct [(0, 3), (1, 3), (2, 3), (3, 3), (4, 3), (5, 3), (6, 3), (7, 3)], 8, 64, [.int .i64 0, .int .i64 0, .int .i64 0, .int .i64 0, .int .i64 0, .int .i64 0, .int .i64 0, .int .i64 0]⟩ := rfl
@[simp] theorem Tryd.τ32 : Tryd.τ 32 = some ⟨.struct [(0, 3), (1, 3), (2, 3), (3, 3), (4, 3), (5, 3), (6, 3), (7, 3)], 8, 64, [.int .i64 0, .int .i64 0, .int .i64 0, .int .i64 0, .int .i64 0, .int .i64 0, .int .i64 0, .int .i64 0]⟩ := rfl
@[simp] theorem Tryd.τ33 : Tryd.τ 33 = some ⟨.struct [(0, 3), (1, 3), (2, 3), (3, 3)], 4, 32, [.int .i64 0, .int .i64 0, .int .i64 0, .int .i64 0]⟩ := rfl
@[simp] theorem Tryd.τ34 : Tryd.τ 34 = some ⟨.struct [(0, 3), (1, 3), (2, 3), (3, 3)], 4, 32, [.int .i64 0, .int .i64 0, .int .i64 0, .int .i64 0]⟩ := rfl
@[simp] theorem Tryd.τ35 : Tryd.τ 35 = some ⟨.struct [(0, 3), (1, 3), (2, 3), (3, 3)], 4, 32, [.int .i64 0, .int .i64 0, .int .i64 0, .int .i64 0]⟩ := rfl
@[simp] theorem Tryd.τ36 : Tryd.τ 36 = some ⟨.struct [(0, 3), (1, 3), (2, 3), (3, 3)], 4, 32, [.int .i64 0, .int .i64 0, .int .i64 0, .int .i64 0]⟩ := rfl
@[simp] theorem Tryd.τ37 : Tryd.τ 37 = some ⟨.struct [(0, 3), (1, 3)], 2, 16, [.int .i64 0, .int .i64 0]⟩ := rfl
@[simp] theorem Tryd.τ38 : Tryd.τ 38 = some ⟨.struct [(0, 3), (1, 3)], 2, 16, [.int .i64 0, .int .i64 0]⟩ := rfl
@[simp] theorem Tryd.τ39 : Tryd.τ 39 = some ⟨.struct [(0, 3), (1, 3), (2, 3), (3, 3)], 4, 32, [.int .i64 0, .int .i64 0, .int .i64 0, .int .i64 0]⟩ := rfl
@[simp] theorem Tryd.τ40 : Tryd.τ 40 = some ⟨.struct [(0, 3), (1, 3), (2, 3), (3, 3)], 4, 32, [.int .i64 0, .int .i64 0, .int .i64 0, .int .i64 0]⟩ := rfl
@[simp] theorem Tryd.τ41 : Tryd.τ 41 = some ⟨.struct [(0, 3), (1, 3), (2, 3), (3, 3)], 4, 32, [.int .i64 0, .int .i64 0, .int .i64 0, .int .i64 0]⟩ := rfl
@[simp] theorem Tryd.τ42 : Tryd.τ 42 = some ⟨.struct [(0, 3), (1, 3), (2, 3), (3, 3)], 4, 32, [.int .i64 0, .int .i64 0, .int .i64 0, .int .i64 0]⟩ := rfl
@[simp] theorem Tryd.τ43 : Tryd.τ 43 = some ⟨.struct [(0, 3), (1, 3), (2, 3), (3, 3), (4, 3), (5, 3)], 6, 48, [.int .i64 0, .int .i64 0, .int .i64 0, .int .i64 0, .int .i64 0, .int .i64 0]⟩ := rfl
@[simp] theorem Tryd.τ44 : Tryd.τ 44 = some ⟨.struct [(0, 3), (1, 3), (2, 3), (3, 3), (4, 3), (5, 3)], 6, 48, [.int .i64 0, .int .i64 0, .int .i64 0, .int .i64 0, .int .i64 0, .int .i64 0]⟩ := rfl
@[simp] theorem Tryd.τ45 : Tryd.τ 45 = some ⟨.struct [(0, 3), (1, 4)], 2, 16, [.int .i64 0, .bool false]⟩ := rfl
@[simp] theorem Tryd.τ46 : Tryd.τ 46 = some ⟨.struct [(0, 3), (1, 4)], 2, 16, [.int .i64 0, .bool false]⟩ := rfl
@[simp] theorem Tryd.τ47 : Tryd.τ 47 = some ⟨.struct [(0, 3), (1, 3)], 2, 16, [.int .i64 0, .int .i64 0]⟩ := rfl
@[simp] theorem Tryd.τ48 : Tryd.τ 48 = some ⟨.struct [(0, 3), (1, 3)], 2, 16, [.int .i64 0, .int .i64 0]⟩ := rfl
@[simp] theorem Tryd.τ49 : Tryd.τ 49 = some ⟨.struct [(0, 3), (1, 3), (2, 3), (3, 3), (4, 26), (12, 28), (16, 30), (21, 32), (29, 34), (33, 36), (37, 38), (39, 40), (43, 42), (47, 44), (53, 46), (55, 48)], 57, 456, [.int .i64 0, .int .i64 0, .int .i64 0, .int .i64 0, .int .i64 0, .int .i64 0, .int .i64 0, .int .i64 0, .int .i64 0, .int .i64 0, .int .i64 0, .int .i64 0, .int .i64 0, .int .i64 0, .int .i64 0, .int .i64 0, .int .i64 0, .int .i64 0, .int .i64 0, .int .i64 0, .int .i64 0, .int .i64 0, .int .i64 0, .int .i64 0, .int .i64 0, .int .i64 0, .int .i64 0, .int .i64 0, .int .i64 0, .int .i64 0, .int .i64 0, .int .i64 0, .int .i64 0, .int .i64 0, .int .i64 0, .int .i64 0, .int .i64 0, .int .i64 0, .int .i64 0, .int .i64 0, .int .i64 0, .int .i64 0, .int .i64 0, .int .i64 0, .int .i64 0, .int .i64 0, .int .i64 0, .int .i64 0, .int .i64 0, .int .i64 0, .int .i64 0, .int .i64 0, .int .i64 0, .int .i64 0, .bool false, .int .i64 0, .int .i64 0]⟩ := rfl
@[simp] theorem Tryd.τ50 : Tryd.τ 50 = some ⟨.struct [(0, 3), (1, 3), (2, 3), (3, 3), (4, 26), (12, 28), (16, 30), (21, 32), (29, 34), (33, 36), (37, 38), (39, 40), (43, 42), (47, 44), (53, 46), (55, 48)], 57, 456, [.int .i64 0, .int .i64 0, .int .i64 0, .int .i64 0, .int .i64 0, .int .i64 0, .int .i64 0, .int .i64 0, .int .i64 0, .int .i64 0, .int .i64 0, .int .i64 0, .int .i64 0, .int .i64 0, .int .i64 0, .int .i64 0, .int .i64 0, .int .i64 0, .int .i64 0, .int .i64 0, .int .i64 0, .int .i64 0, .int .i64 0, .int .i64 0, .int .i64 0, .int .i64 0, .int .i64 0, .int .i64 0, .int .i64 0, .int .i64 0, .int .i64 0, .int .i64 0, .int .i64 0, .int .i64 0, .int .i64 0, .int .i64 0, .int .i64 0, .int .i64 0, .int .i64 0, .int .i64 0, .int .i64 0, .int .i64 0, .int .i64 0, .int .i64 0, .int .i64 0, .int .i64 0, .int .i64 0, .int .i64 0, .int .i64 0, .int .i64 0, .int .i64 0, .int .i64 0, .int .i64 0, .int .i64 0, .bool false, .int .i64 0, .int .i64 0]⟩ := rfl
@[simp] theorem Tryd.τ51 : Tryd.τ 51 = some ⟨.func, 1, 8, [.nilFunc]⟩ := rfl
@[simp] theorem Tryd.τ52 : Tryd.τ 52 = some ⟨.func, 1, 8, [.nilFunc]⟩ := rfl
@[simp] theorem Tryd.τ53 : Tryd.τ 53 = some ⟨.array 32 5, 32, 32, [.int .u8 0, .int .u8 0, .int .u8 0, .int .u8 0, .int .u8 0, .int .u8 0, .int .u8 0, .int .u8 0, .int .u8 0, .int .u8 0, .int .u8 0, .int .u8 0, .int .u8 0, .int .u8 0, .int .u8 0, .int .u8 0, .int .u8 0, .int .u8 0, .int .u8 0, .int .u8 0, .int .u8 0, .int .u8 0, .int .u8 0, .int .u8 0, .int .u8 0, .int .u8 0, .int .u8 0, .int .u8 0, .int .u8 0, .int .u8 0, .int .u8 0, .int .u8 0]⟩ := rfl
@[simp] theorem Tryd.τ54 : Tryd.τ 54 = some ⟨.array 32 5, 32, 32, [.int .u8 0, .int .u8 0, .int .u8 0, .int .u8 0, .int .u8 0, .int .u8 0, .int .u8 0, .int .u8 0, .int .u8 0, .int .u8 0, .int .u8 0, .int .u8 0, .int .u8 0, .int .u8 0, .int .u8 0, .int .u8 0, .int .u8 0, .int .u8 0, .int .u8 0, .int .u8 0, .int .u8 0, .int .u8 0, .int .u8 0, .int .u8 0, .int .u8 0, .int .u8 0, .int .u8 0, .int .u8 0, .int .u8 0, .int .u8 0, .int .u8 0, .int .u8 0]⟩ := rfl
@[simp] theorem Tryd.τ55 : Tryd.τ 55 = some ⟨.int .i64, 1, 8, [.int .i64 0]⟩ := rfl
@[simp] theorem Tryd.τ57 : Tryd.τ 57 = some ⟨.func, 1, 8, [.nilFunc]⟩ := rfl
@[simp] theorem Tryd.τ58 : Tryd.τ 58 = some ⟨.slice 54, 1, 24, [.slice none 0 0]⟩ := rfl
@[simp] theorem Tryd.τ59 : Tryd.τ 59 = some ⟨.struct [(0, 3), (1, 58), (2, 58), (3, 58)], 4, 80, [.int .i64 0, .slice none 0 0, .slice none 0 0, .slice none 0 0]⟩ := rfl
@[simp] theorem Tryd.τ60 : Tryd.τ 60 = some ⟨.struct [(0, 3), (1, 58), (2, 58), (3, 58)], 4, 80, [.int .i64 0, .slice none 0 0, .slice none 0 0, .slice none 0 0]⟩ := rfl
@[simp] theorem Tryd.τ61 : Tryd.τ 61 = some ⟨.struct [(0, 50), (57, 60)], 61, 536, [.int .i64 0, .int .i64 0, .int .i64 0, .int .i64 0, .int .i64 0, .int .i64 0, .int .i64 0, .int .i64 0, .int .i64 0, .int .i64 0, .int .i64 0, .int .i64 0, .int .i64 0, .int .i64 0, .int .i64 0, .int .i64 0, .int .i64 0, .int .i64 0, .int .i64 0, .int .i64 0, .int .i64 0, .int .i64 0, .int .i64 0, .int .i64 0, .int .i64 0, .int .i64 0, .int .i64 0, .int .i64 0, .int .i64 0, .int .i64 0, .int .i64 0, .int .i64 0, .int .i64 0, .int .i64 0, .int .i64 0, .int .i64 0, .int .i64 0, .int .i64 0, .int .i64 0, .int .i64 0, .int .i64 0, .int .i64 0, .int .i64 0, .int .i64 0, .int .i64 0, .int .i64 0, .int .i64 0, .int .i64 0, .int .i64 0, .int .i64 0, .int .i64 0, .int .i64 0, .int .i64 0, .int .i64 0, .bool false, .int .i64 0, .int .i64 0, .int .i64 0, .slice none 0 0, .slice none 0 0, .slice none 0 0]⟩ := rfl
@[simp] theorem Tryd.τ62 : Tryd.τ 62 = some ⟨.struct [(0, 50), (57, 60)], 61, 536, [.int .i64 0, .int .i64 0, .int .i64 0, .int .i64 0, .int .i64 0, .int .i64 0, .int .i64 0, .int .i64 0, .int .i64 0, .int .i64 0, .int .i64 0, .int .i64 0, .int .i64 0, .int .i64 0, .int .i64 0, .int .i64 0, .int .i64 0, .int .i64 0, .int .i64 0, .int .i64 0, .int .i64 0, .int .i64 0, .int .i64 0, .int .i64 0, .int .i64 0, .int .i64 0, .int .i64 0, .int .i64 0, .int .i64 0, .int .i64 0, .int .i64 0, .int .i64 0, .int .i64 0, .int .i64 0, .int .i64 0, .int .i64 0, .int .i64 0, .int .i64 0, .int .i64 0, .int .i64 0, .int .i64 0, .int .i64 0, .int .i64 0, .int .i64 0, .int .i64 0, .int .i64 0, .int .i64 0, .int .i64 0, .int .i64 0, .int .i64 0, .int .i64 0, .int .i64 0, .int .i64 0, .int .i64 0, .bool false, .int .i64 0, .int .i64 0, .int .i64 0, .slice none 0 0, .slice none 0 0, .slice none 0 0]⟩ := rfl
@[simp] theorem Tryd.τ64 : Tryd.τ 64 = some ⟨.func, 1, 8, [.nilFunc]⟩ := rfl
@[simp] theorem Tryd.τ65 : Tryd.τ 65 = some ⟨.func, 1, 8, [.nilFunc]⟩ := rfl
@[simp] theorem Tryd.τ66 : Tryd.τ 66 = some ⟨.slice 68, 1, 24, [.slice none 0 0]⟩ := rfl
@[simp] theorem Tryd.τ67 : Tryd.τ 67 = some ⟨.struct [(0, 54), (32, 3)], 33, 40, [.int .u8 0, .int .u8 0, .int .u8 0, .int .u8 0, .int .u8 0, .int .u8 0, .int .u8 0, .int .u8 0, .int .u8 0, .int .u8 0, .int .u8 0, .int .u8 0, .int .u8 0, .int .u8 0, .int .u8 0, .int .u8 0, .int .u8 0, .int .u8 0, .int .u8 0, .int .u8 0, .int .u8 0, .int .u8 0, .int .u8 0, .int .u8 0, .int .u8 0, .int .u8 0, .int .u8 0, .int .u8 0, .int .u8 0, .int .u8 0, .int .u8 0, .int .u8 0, .int .i64 0]⟩ := rfl
@[simp] theorem Tryd.τ68 : Tryd.τ 68 = some ⟨.struct [(0, 54), (32, 3)], 33, 40, [.int .u8 0, .int .u8 0, .int .u8 0, .int .u8 0, .int .u8 0, .int .u8 0, .int .u8 0, .int .u8 0, .int .u8 0, .int .u8 0, .int .u8 0, .int .u8 0, .int .u8 0, .int .u8 0, .int .u8 0, .int .u8 0, .int .u8 0, .int .u8 0, .int .u8 0, .int .u8 0, .int .u8 0, .int .u8 0, .int .u8 0, .int .u8 0, .int .u8 0, .int .u8 0, .int .u8 0, .int .u8 0, .int .u8 0, .int .u8 0, .int .u8 0, .int .u8 0, .int .i64 0]⟩ := rfl
@[simp] theorem Tryd.τ69 : Tryd.τ 69 = some ⟨.func, 1, 8, [.nilFunc]⟩ := rfl
@[simp] theorem Tryd.τ70 : Tryd.τ 70 = some ⟨.func, 1, 8, [.nilFunc]⟩ := rfl
@[simp] theorem Tryd.τ71 : Tryd.τ 71 = some ⟨.func, 1, 8, [.nilFunc]⟩ := rfl
@[simp] theorem Tryd.τ72 : Tryd.τ 72 = some ⟨.func, 1, 8, [.nilFunc]⟩ := rfl
@[simp] theorem Tryd.τ73 : Tryd.τ 73 = some ⟨.slice 62, 1, 24, [.slice none 0 0]⟩ := rfl
@[simp] theorem Tryd.τ74 : Tryd.τ 74 = some ⟨.func, 1, 8, [.nilFunc]⟩ := rfl
@[simp] theorem Tryd.τ75 : Tryd.τ 75 = some ⟨.int .u64, 1, 8, [.int .u64 0]⟩ := rfl
@[simp] theorem Tryd.τ76 : Tryd.τ 76 = some ⟨.slice 79, 1, 24, [.slice none 0 0]⟩ := rfl
@[simp] theorem Tryd.τ77 : Tryd.τ 77 = some ⟨.func, 1, 8, [.nilFunc]⟩ := rfl
@[simp] theorem Tryd.τ78 : Tryd.τ 78 = some ⟨.struct [(0, 62), (61, 62)], 122, 1072, [.int .i64 0, .int .i64 0, .int .i64 0, .int .i64 0, .int .i64 0, .int .i64 0, .int .i64 0, .int .i64 0, .int .i64 0, .int .i64 0, .int .i64 0, .int .i64 0, .int .i64 0, .int .i64 0, .int .i64 0, .int .i64 0, .int .i64 0, .int .i64 0, .int .i64 0, .int .i64 0, .int .i64 0, .int .i64 0, .int .i64 0, .int .i64 0, .int .i64 0, .int .i64 0, .int .i64 0, .int .i64 0, .int .i64 0, .int .i64 0, .int .i64 0, .int .i64 0, .int .i64 0, .int .i64 0, .int .i64 0, .int .i64 0, .int .i64 0, .int .i64 0, .int .i64 0, .int .i64 0, .int .i64 0, .int .i64 0, .int .i64 0, .int .i64 0, .int .i64 0, .int .i64 0, .int .i64 0, .int .i64 0, .int .i64 0, .int .i64 0, .int .i64 0, .int .i64 0, .int .i64 0, .int .i64 0, .bool false, .int .i64 0, .int .i64 0, .int .i64 0, .slice none 0 0, .slice none 0 0, .slice none 0 0, .int .i64 0, .int .i64 0, .int .i64 0, .int .i64 0, .int .i64 0, .int .i64 0, .int .i64 0, .int .i64 0, .int .i64 0, .int .i64 0, .int .i64 0, .int .i64 0, .int .i64 0, .int .i64 0, .int .i64 0, .int .i64 0, .int .i64 0, .int .i64 0, .int .i64 0, .int .i64 0, .int .i64 0, .int .i64 0, .int .i64 0, .int .i64 0, .int .i64 0, .int .i64 0, .int .i64 0, .int .i64 0, .int .i64 0, .int .i64 0, .int .i64 0, .int .i64 0, .int .i64 0, .int .i64 0, .int .i64 0, .int .i64 0, .int .i64 0, .int .i64 0, .int .i64 0, .int .i64 0, .int .i64 0, .int .i64 0, .int .i64 0, .int .i64 0, .int .i64 0, .int .i64 0, .int .i64 0, .int .i64 0, .int .i64 0, .int .i64 0, .int .i64 0, .int .i64 0, .int .i64 0, .int .i64 0, .bool false, .int .i64 0, .int .i64 0, .int .i64 0, .slice none 0 0, .slice none 0 0, .slice none 0 0]⟩ := rfl
@[simp] theorem Tryd.τ79 : Tryd.τ 79 = some ⟨.struct [(0, 62), (61, 62)], 122, 1072, [.int .i64 0, .int .i64 0, .int .i64 0, .int .i64 0, .int .i64 0, .int .i64 0, .int .i64 0, .int .i64 0, .int .i64 0, .int .i64 0, .int .i64 0, .int .i64 0, .int .i64 0, .int .i64 0, .int .i64 0, .int .i64 0, .int .i64 0, .int .i64 0, .int .i64 0, .int .i64 0, .int .i64 0, .int .i64 0, .int .i64 0, .int .i64 0, .int .i64 0, .int .i64 0, .int .i64 0, .int .i64 0, .int .i64 0, .int .i64 0, .int .i64 0, .int .i64 0, .int .i64 0, .int .i64 0, .int .i64 0, .int .i64 0, .int .i64 0, .int .i64 0, .int .i64 0, .int .i64 0, .int .i64 0, .int .i64 0, .int .i64 0, .int .i64 0, .int .i64 0, .int .i64 0, .int .i64 0, .int .i64 0, .int .i64 0, .int .i64 0, .int .i64 0, .int .i64 0, .int .i64 0, .int .i64 0, .bool false, .int .i64 0, .int .i64 0, .int .i64 0, .slice none 0 0, .slice none 0 0, .slice none 0 0, .int .i64 0, .int .i64 0, .int .i64 0, .int .i64 0, .int .i64 0, .int .i64 0, .int .i64 0, .int .i64 0, .int .i64 0, .int .i64 0, .int .i64 0, .int .i64 0, .int .i64 0, .int .i64 0, .int .i64 0, .int .i64 0, .int .i64 0, .int .i64 0, .int .i64 0, .int .i64 0, .int .i64 0, .int .i64 0, .int .i64 0, .int .i64 0, .int .i64 0, .int .i64 0, .int .i64 0, .int .i64 0, .int .i64 0, .int .i64 0, .int .i64 0, .int .i64 0, .int .i64 0, .int .i64 0, .int .i64 0, .int .i64 0, .int .i64 0, .int .i64 0, .int .i64 0, .int .i64 0, .int .i64 0, .int .i64 0, .int .i64 0, .int .i64 0, .int .i64 0, .int .i64 0, .int .i64 0, .int .i64 0, .int .i64 0, .int .i64 0, .int .i64 0, .int .i64 0, .int .i64 0, .int .i64 0, .bool false, .int .i64 0, .int .i64 0, .int .i64 0, .slice none 0 0, .slice none 0 0, .slice none 0 0]⟩ := rfl
@[simp] theorem Tryd.τ80 : Tryd.τ 80 = some ⟨.func, 1, 8, [.nilFunc]⟩ := rfl
@[simp] theorem Tryd.τ81 : Tryd.τ 81 = some ⟨.func, 1, 8, [.nilFunc]⟩ := rfl
@[simp] theorem Tryd.τ82 : Tryd.τ 82 = some ⟨.func, 1, 8, [.nilFunc]⟩ := rfl
@[simp] theorem Tryd.τ83 : Tryd.τ 83 = some ⟨.func, 1, 8, [.nilFunc]⟩ := rfl
@[simp] theorem Tryd.τ84 : Tryd.τ 84 = some ⟨.func, 1, 8, [.nilFunc]⟩ := rfl
@[simp] theorem Tryd.τ85 : Tryd.τ 85 = some ⟨.func, 1, 8, [.nilFunc]⟩ := rfl
@[simp] theorem Tryd.τ86 : Tryd.τ 86 = some ⟨.func, 1, 8, [.nilFunc]⟩ := rfl
@[simp] theorem Tryd.τ88 : Tryd.τ 88 = some ⟨.func, 1, 8, [.nilFunc]⟩ := rfl
@[simp] theorem Tryd.τ89 : Tryd.τ 89 = some ⟨.func, 1, 8, [.nilFunc]⟩ := rfl
@[simp] theorem Tryd.τ90 : Tryd.τ 90 = some ⟨.slice 3, 1, 24, [.slice none 0 0]⟩ := rfl
@[simp] theorem Tryd.τ92 : Tryd.τ 92 = some ⟨.func, 1, 8, [.nilFunc]⟩ := rfl
@[simp] theorem Tryd.τ93 : Tryd.τ 93 = some ⟨.func, 1, 8, [.nilFunc]⟩ := rfl
@[simp] theorem Tryd.τ94 : Tryd.τ 94 = some ⟨.func, 1, 8, [.nilFunc]⟩ := rfl
@[simp] theorem Tryd.τ95 : Tryd.τ 95 = some ⟨.map 104 73, 1, 8, [.map none]⟩ := rfl
@[simp] theorem Tryd.τ96 : Tryd.τ 96 = some ⟨.map 104 73, 1, 8, [.map none]⟩ := rfl
@[simp] theorem Tryd.τ97 : Tryd.τ 97 = some ⟨.func, 1, 8, [.nilFunc]⟩ := rfl
@[simp] theorem Tryd.τ98 : Tryd.τ 98 = some ⟨.func, 1, 8, [.nilFunc]⟩ := rfl
@[simp] theorem Tryd.τ99 : Tryd.τ 99 = some ⟨.func, 1, 8, [.nilFunc]⟩ := rfl
@[simp] theorem Tryd.τ100 : Tryd.τ 100 = some ⟨.func, 1, 8, [.nilFunc]⟩ := rfl
@[simp] theorem Tryd.τ101 : Tryd.τ 101 = some ⟨.func, 1, 8, [.nilFunc]⟩ := rfl
@[simp] theorem Tryd.τ102 : Tryd.τ 102 = some ⟨.func, 1, 8, [.nilFunc]⟩ := rfl
@[simp] theorem Tryd.τ103 : Tryd.τ 103 = some ⟨.struct [(0, 3), (1, 3)], 2, 16, [.int .i64 0, .int .i64 0]⟩ := rfl
@[simp] theorem Tryd.τ104 : Tryd.τ 104 = some ⟨.struct [(0, 3), (1, 3)], 2, 16, [.int .i64 0, .int .i64 0]⟩ := rfl
@[simp] theorem Tryd.τ105 : Tryd.τ 105 = some ⟨.func, 1, 8, [.nilFunc]⟩ := rfl
@[simp] theorem Tryd.τ106 : Tryd.τ 106 = some ⟨.func, 1, 8, [.nilFunc]⟩ := rfl
@[simp] theorem Tryd.τ107 : Tryd.τ 107 = some ⟨.func, 1, 8, [.nilFunc]⟩ := rfl
@[simp] theorem Tryd.τ108 : Tryd.τ 108 = some ⟨.func, 1, 8, [.nilFunc]⟩ := rfl
@[simp] theorem Tryd.τ109 : Tryd.τ 109 = some ⟨.func, 1, 8, [.nilFunc]⟩ := rfl
@[simp] theorem Tryd.τ110 : Tryd.τ 110 = some ⟨.func, 1, 8, [.nilFunc]⟩ := rfl
@[simp] theorem Tryd.τ111 : Tryd.τ 111 = some ⟨.func, 1, 8, [.nilFunc]⟩ := rfl
@[simp] theorem Tryd.τ112 : Tryd.τ 112 = some ⟨.func, 1, 8, [.nilFunc]⟩ := rfl
@[simp] theorem Tryd.τ113 : Tryd.τ 113 = some ⟨.struct [(0, 22), (1, 3)], 2, 32, [.slice none 0 0, .int .i64 0]⟩ := rfl
@[simp] theorem Tryd.τ114 : Tryd.τ 114 = some ⟨.struct [(0, 22), (1, 3)], 2, 32, [.slice none 0 0, .int .i64 0]⟩ := rfl
@[simp] theorem Tryd.τ116 : Tryd.τ 116 = some ⟨.func, 1, 8, [.nilFunc]⟩ := rfl
@[simp] theorem Tryd.τ117 : Tryd.τ 117 = some ⟨.array 64 4, 64, 64, [.bool false, .bool false, .bool false, .bool false, .bool false, .bool false, .bool false, .bool false, .bool false, .bool false, .bool false, .bool false, .bool false, .bool false, .bool false, .bool false, .bool false, .bool false, .bool false, .bool false, .bool false, .bool false, .bool false, .bool false, .bool false, .bool false, .bool false, .bool false, .bool false, .bool false, .bool false, .bool false, .bool false, .bool false, .bool false, .bool false, .bool false, .bool false, .bool false, .bool false, .bool false, .bool false, .bool false, .bool false, .bool false, .bool false, .bool false, .bool false, .bool false, .bool false, .bool false, .bool false, .bool false, .bool false, .bool false, .bool false, .bool false, .bool false, .bool false, .bool false, .bool false, .bool false, .bool false, .bool false]⟩ := rfl
@[simp] theorem Tryd.τ118 : Tryd.τ 118 = some ⟨.array 64 4, 64, 64, [.bool false, .bool false, .bool false, .bool false, .bool false, .bool false, .bool false, .bool false, .bool false, .bool false, .bool false, .bool false, .bool false, .bool false, .bool false, .bool false, .bool false, .bool false, .bool false, .bool false, .bool false, .bool false, .bool false, .bool false, .bool false, .bool false, .bool false, .bool false, .bool false, .bool false, .bool false, .bool false, .bool false, .bool false, .bool false, .bool false, .bool false, .bool false, .bool false, .bool false, .bool false, .bool false, .bool false, .bool false, .bool false, .bool false, .bool false, .bool false, .bool false, .bool false, .bool false, .bool false, .bool false, .bool false, .bool false, .bool false, .bool false, .bool false, .bool false, .bool false, .bool false, .bool false, .bool false, .bool false]⟩ := rfl
@[simp] theorem Tryd.τ119 : Tryd.τ 119 = some ⟨.func, 1, 8, [.nilFunc]⟩ := rfl
@[simp] theorem Tryd.τ121 : Tryd.τ 121 = some ⟨.func, 1, 8, [.nilFunc]⟩ := rfl
@[simp] theorem Tryd.τ122 : Tryd.τ 122 = some ⟨.slice 134, 1, 24, [.slice none 0 0]⟩ := rfl
@[simp] theorem Tryd.τ123 : Tryd.τ 123 = some ⟨.struct [(0, 122), (1, 51)], 2, 32, [.slice none 0 0, .nilFunc]⟩ := rfl
@[simp] theorem Tryd.τ124 : Tryd.τ 124 = some ⟨.struct [(0, 122), (1, 51)], 2, 32, [.slice none 0 0, .nilFunc]⟩ := rfl
@[simp] theorem Tryd.τ126 : Tryd.τ 126 = some ⟨.func, 1, 8, [.nilFunc]⟩ := rfl
@[simp] theorem Tryd.τ127 : Tryd.τ 127 = some ⟨.ptr 50, 1, 8, [.pointer none]⟩ := rfl
@[simp] theorem Tryd.τ128 : Tryd.τ 128 = some ⟨.ptr 3, 1, 8, [.pointer none]⟩ := rfl
@[simp] theorem Tryd.τ129 : Tryd.τ 129 = some ⟨.func, 1, 8, [.nilFunc]⟩ := rfl
@[simp] theorem Tryd.τ130 : Tryd.τ 130 = some ⟨.func, 1, 8, [.nilFunc]⟩ := rfl
@[simp] theorem Tryd.τ131 : Tryd.τ 131 = some ⟨.struct [(0, 3), (1, 3)], 2, 16, [.int .i64 0, .int .i64 0]⟩ := rfl
@[simp] theorem Tryd.τ132 : Tryd.τ 132 = some ⟨.struct [(0, 3), (1, 3)], 2, 16, [.int .i64 0, .int .i64 0]⟩ := rfl
@[simp] theorem Tryd.τ133 : Tryd.τ 133 = some ⟨.struct [(0, 128), (1, 132)], 3, 24, [.pointer none, .int .i64 0, .int .i64 0]⟩ := rfl
@[simp] theorem Tryd.τ134 : Tryd.τ 134 = some ⟨.struct [(0, 128), (1, 132)], 3, 24, [.pointer none, .int .i64 0, .int .i64 0]⟩ := rfl
@[simp] theorem Tryd.τ135 : Tryd.τ 135 = some ⟨.func, 1, 8, [.nilFunc]⟩ := rfl
@[simp] theorem Tryd.τ137 : Tryd.τ 137 = some ⟨.func, 1, 8, [.nilFunc]⟩ := rfl
@[simp] theorem Tryd.τ138 : Tryd.τ 138 = some ⟨.func, 1, 8, [.nilFunc]⟩ := rfl
@[simp] theorem Tryd.τ139 : Tryd.τ 139 = some ⟨.func, 1, 8, [.nilFunc]⟩ := rfl
@[simp] theorem Tryd.τ140 : Tryd.τ 140 = some ⟨.func, 1, 8, [.nilFunc]⟩ := rfl
@[simp] theorem Tryd.τ141 : Tryd.τ 141 = some ⟨.func, 1, 8, [.nilFunc]⟩ := rfl
@[simp] theorem Tryd.τ142 : Tryd.τ 142 = some ⟨.slice 104, 1, 24, [.slice none 0 0]⟩ := rfl
@[simp] theorem Tryd.τ143 : Tryd.τ 143 = some ⟨.func, 1, 8, [.nilFunc]⟩ := rfl
@[simp] theorem Tryd.τ144 : Tryd.τ 144 = some ⟨.func, 1, 8, [.nilFunc]⟩ := rfl
@[simp] theorem Tryd.τ145 : Tryd.τ 145 = some ⟨.func, 1, 8, [.nilFunc]⟩ := rfl
@[simp] theorem Tryd.τ146 : Tryd.τ 146 = some ⟨.func, 1, 8, [.nilFunc]⟩ := rfl
@[simp] theorem Tryd.τ147 : Tryd.τ 147 = some ⟨.func, 1, 8, [.nilFunc]⟩ := rfl
@[simp] theorem Tryd.τ148 : Tryd.τ 148 = some ⟨.func, 1, 8, [.nilFunc]⟩ := rfl
@[simp] theorem Tryd.τ149 : Tryd.τ 149 = some ⟨.func, 1, 8, [.nilFunc]⟩ := rfl
@[simp] theorem Tryd.τ150 : Tryd.τ 150 = some ⟨.func, 1, 8, [.nilFunc]⟩ := rfl
@[simp] theorem Tryd.τ151 : Tryd.τ 151 = some ⟨.func, 1, 8, [.nilFunc]⟩ := rfl
@[simp] theorem Tryd.τ152 : Tryd.τ 152 = some ⟨.func, 1, 8, [.nilFunc]⟩ := rfl
@[simp] theorem Tryd.τ153 : Tryd.τ 153 = some ⟨.func, 1, 8, [.nilFunc]⟩ := rfl
@[simp] theorem Tryd.τ154 : Tryd.τ 154 = some ⟨.func, 1, 8, [.nilFunc]⟩ := rfl
@[simp] theorem Tryd.τ155 : Tryd.τ 155 = some ⟨.slice 157, 1, 24, [.slice none 0 0]⟩ := rfl
@[simp] theorem Tryd.τ156 : Tryd.τ 156 = some ⟨.struct [(0, 3), (1, 3), (2, 9), (3, 155)], 4, 56, [.int .i64 0, .int .i64 0, .string { data := #[] }, .slice none 0 0]⟩ := rfl
@[simp] theorem Tryd.τ157 : Tryd.τ 157 = some ⟨.struct [(0, 3), (1, 3), (2, 9), (3, 155)], 4, 56, [.int .i64 0, .int .i64 0, .string { data := #[] }, .slice none 0 0]⟩ := rfl
@[simp] theorem Tryd.τ158 : Tryd.τ 158 = some ⟨.func, 1, 8, [.nilFunc]⟩ := rfl
@[simp] theorem Tryd.τ159 : Tryd.τ 159 = some ⟨.ptr 26, 1, 8, [.pointer none]⟩ := rfl
@[simp] theorem Tryd.τ160 : Tryd.τ 160 = some ⟨.ptr 28, 1, 8, [.pointer none]⟩ := rfl
@[simp] theorem Tryd.τ161 : Tryd.τ 161 = some ⟨.ptr 30, 1, 8, [.pointer none]⟩ := rfl
@[simp] theorem Tryd.τ162 : Tryd.τ 162 = some ⟨.ptr 32, 1, 8, [.pointer none]⟩ := rfl
@[simp] theorem Tryd.τ163 : Tryd.τ 163 = some ⟨.ptr 34, 1, 8, [.pointer none]⟩ := rfl
@[simp] theorem Tryd.τ164 : Tryd.τ 164 = some ⟨.ptr 36, 1, 8, [.pointer none]⟩ := rfl
@[simp] theorem Tryd.τ165 : Tryd.τ 165 = some ⟨.ptr 38, 1, 8, [.pointer none]⟩ := rfl
@[simp] theorem Tryd.τ166 : Tryd.τ 166 = some ⟨.ptr 40, 1, 8, [.pointer none]⟩ := rfl
@[simp] theorem Tryd.τ167 : Tryd.τ 167 = some ⟨.ptr 42, 1, 8, [.pointer none]⟩ := rfl
@[simp] theorem Tryd.τ168 : Tryd.τ 168 = some ⟨.ptr 44, 1, 8, [.pointer none]⟩ := rfl
@[simp] theorem Tryd.τ169 : Tryd.τ 169 = some ⟨.slice 4, 1, 24, [.slice none 0 0]⟩ := rfl
@[simp] theorem Tryd.τ170 : Tryd.τ 170 = some ⟨.func, 1, 8, [.nilFunc]⟩ := rfl
@[simp] theorem Tryd.τ171 : Tryd.τ 171 = some ⟨.func, 1, 8, [.nilFunc]⟩ := rfl
@[simp] theorem Tryd.τ172 : Tryd.τ 172 = some ⟨.func, 1, 8, [.nilFunc]⟩ := rfl
@[simp] theorem Tryd.τ173 : Tryd.τ 173 = some ⟨.func, 1, 8, [.nilFunc]⟩ := rfl
@[simp] theorem Tryd.τ174 : Tryd.τ 174 = some ⟨.int .u32, 1, 4, [.int .u32 0]⟩ := rfl
@[simp] theorem Tryd.τ175 : Tryd.τ 175 = some ⟨.array 8 174, 8, 32, [.int .u32 0, .int .u32 0, .int .u32 0, .int .u32 0, .int .u32 0, .int .u32 0, .int .u32 0, .int .u32 0]⟩ := rfl
@[simp] theorem Tryd.τ176 : Tryd.τ 176 = some ⟨.int .u64, 1, 8, [.int .u64 0]⟩ := rfl
@[simp] theorem Tryd.τ177 : Tryd.τ 177 = some ⟨.func, 1, 8, [.nilFunc]⟩ := rfl
@[simp] theorem Tryd.τ178 : Tryd.τ 178 = some ⟨.ptr 175, 1, 8, [.pointer none]⟩ := rfl
@[simp] theorem Tryd.τ179 : Tryd.τ 179 = some ⟨.slice 22, 1, 24, [.slice none 0 0]⟩ := rfl
@[simp] theorem Tryd.τ180 : Tryd.τ 180 = some ⟨.func, 1, 8, [.nilFunc]⟩ := rfl
@[simp] theorem Tryd.τ181 : Tryd.τ 181 = some ⟨.func, 1, 8, [.nilFunc]⟩ := rfl
@[simp] theorem Tryd.τ182 : Tryd.τ 182 = some ⟨.func, 1, 8, [.nilFunc]⟩ := rfl
@[simp] theorem Tryd.τ183 : Tryd.τ 183 = some ⟨.func, 1, 8, [.nilFunc]⟩ := rfl
@[simp] theorem Tryd.τ184 : Tryd.τ 184 = some ⟨.func, 1, 8, [.nilFunc]⟩ := rfl
@[simp] theorem Tryd.τ185 : Tryd.τ 185 = some ⟨.struct [(0, 184)], 1, 8, [.nilFunc]⟩ := rfl
@[simp] theorem Tryd.τ186 : Tryd.τ 186 = some ⟨.struct [(0, 184)], 1, 8, [.nilFunc]⟩ := rfl
@[simp] theorem Tryd.τ187 : Tryd.τ 187 = some ⟨.ptr 204, 1, 8, [.pointer none]⟩ := rfl
@[simp] theorem Tryd.τ188 : Tryd.τ 188 = some ⟨.func, 1, 8, [.nilFunc]⟩ := rfl
@[simp] theorem Tryd.τ189 : Tryd.τ 189 = some ⟨.func, 1, 8, [.nilFunc]⟩ := rfl
@[simp] theorem Tryd.τ190 : Tryd.τ 190 = some ⟨.int .i64, 1, 8, [.int .i64 0]⟩ := rfl
@[simp] theorem Tryd.τ192 : Tryd.τ 192 = some ⟨.func, 1, 8, [.nilFunc]⟩ := rfl
@[simp] theorem Tryd.τ193 : Tryd.τ 193 = some ⟨.func, 1, 8, [.nilFunc]⟩ := rfl
@[simp] theorem Tryd.τ194 : Tryd.τ 194 = some ⟨.func, 1, 8, [.nilFunc]⟩ := rfl
@[simp] theorem Tryd.τ195 : Tryd.τ 195 = some ⟨.func, 1, 8, [.nilFunc]⟩ := rfl
@[simp] theorem Tryd.τ196 : Tryd.τ 196 = some ⟨.array 16 174, 16, 64, [.int .u32 0, .int .u32 0, .int .u32 0, .int .u32 0, .int .u32 0, .int .u32 0, .int .u32 0, .int .u32 0, .int .u32 0, .int .u32 0, .int .u32 0, .int .u32 0, .int .u32 0, .int .u32 0, .int .u32 0, .int .u32 0]⟩ := rfl
@[simp] theorem Tryd.τ197 : Tryd.τ 197 = some ⟨.array 16 174, 16, 64, [.int .u32 0, .int .u32 0, .int .u32 0, .int .u32 0, .int .u32 0, .int .u32 0, .int .u32 0, .int .u32 0, .int .u32 0, .int .u32 0, .int .u32 0, .int .u32 0, .int .u32 0, .int .u32 0, .int .u32 0, .int .u32 0]⟩ := rfl
@[simp] theorem Tryd.τ198 : Tryd.τ 198 = some ⟨.slice 174, 1, 24, [.slice none 0 0]⟩ := rfl
@[simp] theorem Tryd.τ199 : Tryd.τ 199 = some ⟨.func, 1, 8, [.nilFunc]⟩ := rfl
@[simp] theorem Tryd.τ200 : Tryd.τ 200 = some ⟨.array 16 5, 16, 16, [.int .u8 0, .int .u8 0, .int .u8 0, .int .u8 0, .int .u8 0, .int .u8 0, .int .u8 0, .int .u8 0, .int .u8 0, .int .u8 0, .int .u8 0, .int .u8 0, .int .u8 0, .int .u8 0, .int .u8 0, .int .u8 0]⟩ := rfl
@[simp] theorem Tryd.τ201 : Tryd.τ 201 = some ⟨.array 10 200, 160, 160, [.int .u8 0, .int .u8 0, .int .u8 0, .int .u8 0, .int .u8 0, .int .u8 0, .int .u8 0, .int .u8 0, .int .u8 0, .int .u8 0, .int .u8 0, .int .u8 0, .int .u8 0, .int .u8 0, .int .u8 0, .int .u8 0, .int .u8 0, .int .u8 0, .int .u8 0, .int .u8 0, .int .u8 0, .int .u8 0, .int .u8 0, .int .u8 0, .int .u8 0, .int .u8 0, .int .u8 0, .int .u8 0, .int .u8 0, .int .u8 0, .int .u8 0, .int .u8 0, .int .u8 0, .int .u8 0, .int .u8 0, .int .u8 0, .int .u8 0, .int .u8 0, .int .u8 0, .int .u8 0, .int .u8 0, .int .u8 0, .int .u8 0, .int .u8 0, .int .u8 0, .int .u8 0, .int .u8 0, .int .u8 0, .int .u8 0, .int .u8 0, .int .u8 0, .int .u8 0, .int .u8 0, .int .u8 0, .int .u8 0, .int .u8 0, .int .u8 0, .int .u8 0, .int .u8 0, .int .u8 0, .int .u8 0, .int .u8 0, .int .u8 0, .int .u8 0, .int .u8 0, .int .u8 0, .int .u8 0, .int .u8 0, .int .u8 0, .int .u8 0, .int .u8 0, .int .u8 0, .int .u8 0, .int .u8 0, .int .u8 0, .int .u8 0, .int .u8 0, .int .u8 0, .int .u8 0, .int .u8 0, .int .u8 0, .int .u8 0, .int .u8 0, .int .u8 0, .int .u8 0, .int .u8 0, .int .u8 0, .int .u8 0, .int .u8 0, .int .u8 0, .int .u8 0, .int .u8 0, .int .u8 0, .int .u8 0, .int .u8 0, .int .u8 0, .int .u8 0, .int .u8 0, .int .u8 0, .int .u8 0, .int .u8 0, .int .u8 0, .int .u8 0, .int .u8 0, .int .u8 0, .int .u8 0, .int .u8 0, .int .u8 0, .int .u8 0, .int .u8 0, .int .u8 0, .int .u8 0, .int .u8 0, .int .u8 0, .int .u8 0, .int .u8 0, .int .u8 0, .int .u8 0, .int .u8 0, .int .u8 0, .int .u8 0, .int .u8 0, .int .u8 0, .int .u8 0, .int .u8 0, .int .u8 0, .int .u8 0, .int .u8 0, .int .u8 0, .int .u8 0, .int .u8 0, .int .u8 0, .int .u8 0, .int .u8 0, .int .u8 0, .int .u8 0, .int .u8 0, .int .u8 0, .int .u8 0, .int .u8 0, .int .u8 0, .int .u8 0, .int .u8 0, .int .u8 0, .int .u8 0, .int .u8 0, .int .u8 0, .int .u8 0, .int .u8 0, .int .u8 0, .int .u8 0, .int .u8 0, .int .u8 0, .int .u8 0, .int .u8 0, .int .u8 0, .int .u8 0, .int .u8 0, .int .u8 0, .int .u8 0]⟩ := rfl
@[simp] theorem Tryd.τ202 : Tryd.τ 202 = some ⟨.func, 1, 8, [.nilFunc]⟩ := rfl
@[simp] theorem Tryd.τ203 : Tryd.τ 203 = some ⟨.array 4 186, 4, 32, [.nilFunc, .nilFunc, .nilFunc, .nilFunc]⟩ := rfl
@[simp] theorem Tryd.τ204 : Tryd.τ 204 = some ⟨.array 4 186, 4, 32, [.nilFunc, .nilFunc, .nilFunc, .nilFunc]⟩ := rfl
@[simp] theorem Tryd.τ205 : Tryd.τ 205 = some ⟨.func, 1, 8, [.nilFunc]⟩ := rfl
@[simp] theorem Tryd.τ206 : Tryd.τ 206 = some ⟨.func, 1, 8, [.nilFunc]⟩ := rfl
@[simp] theorem Tryd.τ207 : Tryd.τ 207 = some ⟨.func, 1, 8, [.nilFunc]⟩ := rfl
@[simp] theorem Tryd.τ208 : Tryd.τ 208 = some ⟨.int .u64, 1, 8, [.int .u64 0]⟩ := rfl
@[simp] theorem Tryd.τ209 : Tryd.τ 209 = some ⟨.func, 1, 8, [.nilFunc]⟩ := rfl
@[simp] theorem Tryd.τ210 : Tryd.τ 210 = some ⟨.func, 1, 8, [.nilFunc]⟩ := rfl
@[simp] theorem Tryd.τ211 : Tryd.τ 211 = some ⟨.func, 1, 8, [.nilFunc]⟩ := rfl
@[simp] theorem Tryd.τ212 : Tryd.τ 212 = some ⟨.func, 1, 8, [.nilFunc]⟩ := rfl
@[simp] theorem Tryd.τ213 : Tryd.τ 213 = some ⟨.ptr 197, 1, 8, [.pointer none]⟩ := rfl
@[simp] theorem Tryd.τ214 : Tryd.τ 214 = some ⟨.func, 1, 8, [.nilFunc]⟩ := rfl
@[simp] theorem Tryd.τ215 : Tryd.τ 215 = some ⟨.array 4 4, 4, 4, [.bool false, .bool false, .bool false, .bool false]⟩ := rfl
@[simp] theorem Tryd.τ216 : Tryd.τ 216 = some ⟨.ptr 208, 1, 8, [.pointer none]⟩ := rfl
@[simp] theorem Tryd.τ218 : Tryd.τ 218 = some ⟨.func, 1, 8, [.nilFunc]⟩ := rfl
@[simp] theorem Tryd.τ219 : Tryd.τ 219 = some ⟨.func, 1, 8, [.nilFunc]⟩ := rfl
@[simp] theorem Tryd.τ220 : Tryd.τ 220 = some ⟨.struct [(0, 17), (1, 17), (2, 17), (3, 9)], 4, 40, [.pointer none, .pointer none, .pointer none, .string { data := #[] }]⟩ := rfl
@[simp] theorem Tryd.τ221 : Tryd.τ 221 = some ⟨.struct [(0, 17), (1, 17), (2, 17), (3, 9)], 4, 40, [.pointer none, .pointer none, .pointer none, .string { data := #[] }]⟩ := rfl
@[simp] theorem Tryd.τ222 : Tryd.τ 222 = some ⟨.array 0 16, 0, 0, []⟩ := rfl
@[simp] theorem Tryd.τ223 : Tryd.τ 223 = some ⟨.struct [(0, 222)], 0, 0, []⟩ := rfl
@[simp] theorem Tryd.τ224 : Tryd.τ 224 = some ⟨.struct [(0, 222)], 0, 0, []⟩ := rfl
@[simp] theorem Tryd.τ225 : Tryd.τ 225 = some ⟨.func, 1, 8, [.nilFunc]⟩ := rfl
@[simp] theorem Tryd.τ226 : Tryd.τ 226 = some ⟨.int .u8, 1, 1, [.int .u8 0]⟩ := rfl
@[simp] theorem Tryd.τ227 : Tryd.τ 227 = some ⟨.int .u8, 1, 1, [.int .u8 0]⟩ := rfl
@[simp] theorem Tryd.τ228 : Tryd.τ 228 = some ⟨.func, 1, 8, [.nilFunc]⟩ := rfl
@[simp] theorem Tryd.τ229 : Tryd.τ 229 = some ⟨.ptr 5, 1, 8, [.pointer none]⟩ := rfl
@[simp] theorem Tryd.τ230 : Tryd.τ 230 = some ⟨.int .i32, 1, 4, [.int .i32 0]⟩ := rfl
@[simp] theorem Tryd.τ231 : Tryd.τ 231 = some ⟨.int .i32, 1, 4, [.int .i32 0]⟩ := rfl
@[simp] theorem Tryd.τ232 : Tryd.τ 232 = some ⟨.struct [(0, 12), (1, 12), (2, 174), (3, 226), (4, 5), (5, 5), (6, 227), (7, 228), (8, 229), (9, 230), (10, 231)], 11, 48, [.int .u64 0, .int .u64 0, .int .u32 0, .int .u8 0, .int .u8 0, .int .u8 0, .int .u8 0, .nilFunc, .pointer none, .int .i32 0, .int .i32 0]⟩ := rfl
@[simp] theorem Tryd.τ233 : Tryd.τ 233 = some ⟨.struct [(0, 12), (1, 12), (2, 174), (3, 226), (4, 5), (5, 5), (6, 227), (7, 228), (8, 229), (9, 230), (10, 231)], 11, 48, [.int .u64 0, .int .u64 0, .int .u32 0, .int .u8 0, .int .u8 0, .int .u8 0, .int .u8 0, .nilFunc, .pointer none, .int .i32 0, .int .i32 0]⟩ := rfl
set_option maxRecDepth 100000 in

/-- A type's entry is right, by looking. -/
theorem tyS {P : Program} {T : Nat} {e : TE} (i : TypeInfo) {d : TypeDesc} (hu : P.underlying T = some d) (hk : e.k.ok d := by first | rfl | exact ⟨_, rfl, rfl⟩ | exact ⟨_, _, _, rfl⟩ | exact ⟨_, rfl⟩) (hi : P.info? T = some i := by kernel_rfl)
    (h : ∃ z, i.size = e.size ∧ i.bytes = e.bytes ∧ i.zero = some z ∧ z.cells.toList = e.zero ∧ e.zero.length = e.size ∧ e.zero.all (·.oneCell') = true := by exact ⟨_, rfl, rfl, rfl, rfl, rfl, rfl⟩) : TyOk P T e := ⟨⟨i, h.choose, hi, h.choose_spec⟩, ⟨d, hu, hk⟩⟩
set_option maxRecDepth 20000 in
theorem Tryd.tab : TabOk Tryd.prog Tryd.τ := by
  intro T e h
  have hL : AllOk Tryd.prog 0 Tryd.tL := by
    unfold Tryd.tL
    refine ⟨tyS Tryd.t1 Tryd.underlying1, ?_⟩
    refine ⟨tyS Tryd.t2 Tryd.underlying2, ?_⟩
    refine ⟨tyS Tryd.t3 Tryd.underlying3, ?_⟩
    refine ⟨tyS Tryd.t4 Tryd.underlying4, ?_⟩
    refine ⟨tyS Tryd.t5 Tryd.underlying5, ?_⟩
    refine ⟨tyS Tryd.t6 Tryd.underlying6, ?_⟩
    refine ⟨tyS Tryd.t7 Tryd.underlying7, ?_⟩
    refine ⟨tyS Tryd.t8 Tryd.underlying8, ?_⟩
    refine ⟨tyS Tryd.t9 Tryd.underlying9, ?_⟩
    refine ⟨tyS Tryd.t10 Tryd.underlying10, ?_⟩
    refine ⟨tyS Tryd.t11 Tryd.underlying11, ?_⟩
    refine ⟨tyS Tryd.t12 Tryd.underlying12, ?_⟩
    refine ⟨tyS Tryd.t13 Tryd.underlying13, ?_⟩
    refine ⟨tyS Tryd.t14 Tryd.underlying14, ?_⟩
    refine ⟨tyS Tryd.t15 Tryd.underlying15, ?_⟩
    refine ⟨tyS Tryd.t16 Tryd.underlying16, ?_⟩
    refine ⟨tyS Tryd.t17 Tryd.underlying17, ?_⟩
    refine ⟨tyS Tryd.t18 Tryd.underlying18, ?_⟩
    refine ⟨tyS Tryd.t19 Tryd.underlying19, ?_⟩
    refine ⟨tyS Tryd.t20 Tryd.underlying20, ?_⟩
    refine ⟨tyS Tryd.t21 Tryd.underlying21, ?_⟩
    refine ⟨tyS Tryd.t22 Tryd.underlying22, ?_⟩
    refine ⟨tyS Tryd.t23 Tryd.underlying23, ?_⟩
    refine ⟨tyS Tryd.t24 Tryd.underlying24, ?_⟩
    refine ⟨tyS Tryd.t25 Tryd.underlying25, ?_⟩
    refine ⟨tyS Tryd.t26 Tryd.underlying26, ?_⟩
    refine ⟨tyS Tryd.t27 Tryd.underlying27, ?_⟩
    refine ⟨tyS Tryd.t28 Tryd.underlying28, ?_⟩
    refine ⟨tyS Tryd.t29 Tryd.underlying29, ?_⟩
    refine ⟨tyS Tryd.t30 Tryd.underlying30, ?_⟩
    refine ⟨tyS Tryd.t31 Tryd.underlying31, ?_⟩
    refine ⟨tyS Tryd.t32 Tryd.underlying32, ?_⟩
    refine ⟨tyS Tryd.t33 Tryd.underlying33, ?_⟩
    refine ⟨tyS Tryd.t34 Tryd.underlying34, ?_⟩
    refine ⟨tyS Tryd.t35 Tryd.underlying35, ?_⟩
    refine ⟨tyS Tryd.t36 Tryd.underlying36, ?_⟩
    refine ⟨tyS Tryd.t37 Tryd.underlying37, ?_⟩
    refine ⟨tyS Tryd.t38 Tryd.underlying38, ?_⟩
    refine ⟨tyS Tryd.t39 Tryd.underlying39, ?_⟩
    refine ⟨tyS Tryd.t40 Tryd.underlying40, ?_⟩
    refine ⟨tyS Tryd.t41 Tryd.underlying41, ?_⟩
    refine ⟨tyS Tryd.t42 Tryd.underlying42, ?_⟩
    refine ⟨tyS Tryd.t43 Tryd.underlying43, ?_⟩
    refine ⟨tyS Tryd.t44 Tryd.underlying44, ?_⟩
    refine ⟨tyS Tryd.t45 Tryd.underlying45, ?_⟩
    refine ⟨tyS Tryd.t46 Tryd.underlying46, ?_⟩
    refine ⟨tyS Tryd.t47 Tryd.underlying47, ?_⟩
    refine ⟨tyS Tryd.t48 Tryd.underlying48, ?_⟩
    refine ⟨tyS Tryd.t49 Tryd.underlying49, ?_⟩
    refine ⟨tyS Tryd.t50 Tryd.underlying50, ?_⟩
    refine ⟨tyS Tryd.t51 Tryd.underlying51, ?_⟩
    refine ⟨tyS Tryd.t52 Tryd.underlying52, ?_⟩
    refine ⟨tyS Tryd.t53 Tryd.underlying53, ?_⟩
    refine ⟨tyS Tryd.t54 Tryd.underlying54, ?_⟩
    refine ⟨tyS Tryd.t55 Tryd.underlying55, ?_⟩
    refine ⟨tyS Tryd.t57 Tryd.underlying57, ?_⟩
    refine ⟨tyS Tryd.t58 Tryd.underlying58, ?_⟩
    refine ⟨tyS Tryd.t59 Tryd.underlying59, ?_⟩
    refine ⟨tyS Tryd.t60 Tryd.underlying60, ?_⟩
    refine ⟨tyS Tryd.t61 Tryd.underlying61, ?_⟩
    refine ⟨tyS Tryd.t62 Tryd.underlying62, ?_⟩
    refine ⟨tyS Tryd.t64 Tryd.underlying64, ?_⟩
    refine ⟨tyS Tryd.t65 Tryd.underlying65, ?_⟩
    refine ⟨tyS Tryd.t66 Tryd.underlying66, ?_⟩
    refine ⟨tyS Tryd.t67 Tryd.underlying67, ?_⟩
    refine ⟨tyS Tryd.t68 Tryd.underlying68, ?_⟩
    refine ⟨tyS Tryd.t69 Tryd.underlying69, ?_⟩
    refine ⟨tyS Tryd.t70 Tryd.underlying70, ?_⟩
    refine ⟨tyS Tryd.t71 Tryd.underlying71, ?_⟩
    refine ⟨tyS Tryd.t72 Tryd.underlying72, ?_⟩
    refine ⟨tyS Tryd.t73 Tryd.underlying73, ?_⟩
    refine ⟨tyS Tryd.t74 Tryd.underlying74, ?_⟩
    refine ⟨tyS Tryd.t75 Tryd.underlying75, ?_⟩
    refine ⟨tyS Tryd.t76 Tryd.underlying76, ?_⟩
    refine ⟨tyS Tryd.t77 Tryd.underlying77, ?_⟩
    refine ⟨tyS Tryd.t78 Tryd.underlying78, ?_⟩
    refine ⟨tyS Tryd.t79 Tryd.underlying79, ?_⟩
    refine ⟨tyS Tryd.t80 Tryd.underlying80, ?_⟩
    refine ⟨tyS Tryd.t81 Tryd.underlying81, ?_⟩
    refine ⟨tyS Tryd.t82 Tryd.underlying82, ?_⟩
    refine ⟨tyS Tryd.t83 Tryd.underlying83, ?_⟩
    refine ⟨tyS Tryd.t84 Tryd.underlying84, ?_⟩
    refine ⟨tyS Tryd.t85 Tryd.underlying85, ?_⟩
    refine ⟨tyS Tryd.t86 Tryd.underlying86, ?_⟩
    refine ⟨tyS Tryd.t88 Tryd.underlying88, ?_⟩
    refine ⟨tyS Tryd.t89 Tryd.underlying89, ?_⟩
    refine ⟨tyS Tryd.t90 Tryd.underlying90, ?_⟩
    refine ⟨tyS Tryd.t92 Tryd.underlying92, ?_⟩
    refine ⟨tyS Tryd.t93 Tryd.underlying93, ?_⟩
    refine ⟨tyS Tryd.t94 Tryd.underlying94, ?_⟩
    refine ⟨tyS Tryd.t95 Tryd.underlying95, ?_⟩
    refine ⟨tyS Tryd.t96 Tryd.underlying96, ?_⟩
    refine ⟨tyS Tryd.t97 Tryd.underlying97, ?_⟩
    refine ⟨tyS Tryd.t98 Tryd.underlying98, ?_⟩
    refine ⟨tyS Tryd.t99 Tryd.underlying99, ?_⟩
    refine ⟨tyS Tryd.t100 Tryd.underlying100, ?_⟩
    refine ⟨tyS Tryd.t101 Tryd.underlying101, ?_⟩
    refine ⟨tyS Tryd.t102 Tryd.underlying102, ?_⟩
    refine ⟨tyS Tryd.t103 Tryd.underlying103, ?_⟩
    refine ⟨tyS Tryd.t104 Tryd.underlying104, ?_⟩
    refine ⟨tyS Tryd.t105 Tryd.underlying105, ?_⟩
    refine ⟨tyS Tryd.t106 Tryd.underlying106, ?_⟩
    refine ⟨tyS Tryd.t107 Tryd.underlying107, ?_⟩
    refine ⟨tyS Tryd.t108 Tryd.underlying108, ?_⟩
    refine ⟨tyS Tryd.t109 Tryd.underlying109, ?_⟩
    refine ⟨tyS Tryd.t110 Tryd.underlying110, ?_⟩
    refine ⟨tyS Tryd.t111 Tryd.underlying111, ?_⟩
    refine ⟨tyS Tryd.t112 Tryd.underlying112, ?_⟩
    refine ⟨tyS Tryd.t113 Tryd.underlying113, ?_⟩
    refine ⟨tyS Tryd.t114 Tryd.underlying114, ?_⟩
    refine ⟨tyS Tryd.t116 Tryd.underlying116, ?_⟩
    refine ⟨tyS Tryd.t117 Tryd.underlying117, ?_⟩
    refine ⟨tyS Tryd.t118 Tryd.underlying118, ?_⟩
    refine ⟨tyS Tryd.t119 Tryd.underlying119, ?_⟩
    refine ⟨tyS Tryd.t121 Tryd.underlying121, ?_⟩
    refine ⟨tyS Tryd.t122 Tryd.underlying122, ?_⟩
    refine ⟨tyS Tryd.t123 Tryd.underlying123, ?_⟩
    refine ⟨tyS Tryd.t124 Tryd.underlying124, ?_⟩
    refine ⟨tyS Tryd.t126 Tryd.underlying126, ?_⟩
    refine ⟨tyS Tryd.t127 Tryd.underlying127, ?_⟩
    refine ⟨tyS Tryd.t128 Tryd.underlying128, ?_⟩
    refine ⟨tyS Tryd.t129 Tryd.underlying129, ?_⟩
    refine ⟨tyS Tryd.t130 Tryd.underlying130, ?_⟩
    refine ⟨tyS Tryd.t131 Tryd.underlying131, ?_⟩
    refine ⟨tyS Tryd.t132 Tryd.underlying132, ?_⟩
    refine ⟨tyS Tryd.t133 Tryd.underlying133, ?_⟩
    refine ⟨tyS Tryd.t134 Tryd.underlying134, ?_⟩
    refine ⟨tyS Tryd.t135 Tryd.underlying135, ?_⟩
    refine ⟨tyS Tryd.t137 Tryd.underlying137, ?_⟩
    refine ⟨tyS Tryd.t138 Tryd.underlying138, ?_⟩
    refine ⟨tyS Tryd.t139 Tryd.underlying139, ?_⟩
    refine ⟨tyS Tryd.t140 Tryd.underlying140, ?_⟩
    refine ⟨tyS Tryd.t141 Tryd.underlying141, ?_⟩
    refine ⟨tyS Tryd.t142 Tryd.underlying142, ?_⟩
    refine ⟨tyS Tryd.t143 Tryd.underlying143, ?_⟩
    refine ⟨tyS Tryd.t144 Tryd.underlying144, ?_⟩
    refine ⟨tyS Tryd.t145 Tryd.underlying145, ?_⟩
    refine ⟨tyS Tryd.t146 Tryd.underlying146, ?_⟩
    refine ⟨tyS Tryd.t147 Tryd.underlying147, ?_⟩
    refine ⟨tyS Tryd.t148 Tryd.underlying148, ?_⟩
    refine ⟨tyS Tryd.t149 Tryd.underlying149, ?_⟩
    refine ⟨tyS Tryd.t150 Tryd.underlying150, ?_⟩
    refine ⟨tyS Tryd.t151 Tryd.underlying151, ?_⟩
    refine ⟨tyS Tryd.t152 Tryd.underlying152, ?_⟩
    refine ⟨tyS Tryd.t153 Tryd.underlying153, ?_⟩
    refine ⟨tyS Tryd.t154 Tryd.underlying154, ?_⟩
    refine ⟨tyS Tryd.t155 Tryd.underlying155, ?_⟩
    refine ⟨tyS Tryd.t156 Tryd.underlying156, ?_⟩
    refine ⟨tyS Tryd.t157 Tryd.underlying157, ?_⟩
    refine ⟨tyS Tryd.t158 Tryd.underlying158, ?_⟩
    refine ⟨tyS Tryd.t159 Tryd.underlying159, ?_⟩
    refine ⟨tyS Tryd.t160 Tryd.underlying160, ?_⟩
    refine ⟨tyS Tryd.t161 Tryd.underlying161, ?_⟩
    refine ⟨tyS Tryd.t162 Tryd.underlying162, ?_⟩
    refine ⟨tyS Tryd.t163 Tryd.underlying163, ?_⟩
    refine ⟨tyS Tryd.t164 Tryd.underlying164, ?_⟩
    refine ⟨tyS Tryd.t165 Tryd.underlying165, ?_⟩
    refine ⟨tyS Tryd.t166 Tryd.underlying166, ?_⟩
    refine ⟨tyS Tryd.t167 Tryd.underlying167, ?_⟩
    refine ⟨tyS Tryd.t168 Tryd.underlying168, ?_⟩
    refine ⟨tyS Tryd.t169 Tryd.underlying169, ?_⟩
    refine ⟨tyS Tryd.t170 Tryd.underlying170, ?_⟩
    refine ⟨tyS Tryd.t171 Tryd.underlying171, ?_⟩
    refine ⟨tyS Tryd.t172 Tryd.underlying172, ?_⟩
    refine ⟨tyS Tryd.t173 Tryd.underlying173, ?_⟩
    refine ⟨tyS Tryd.t174 Tryd.underlying174, ?_⟩
    refine ⟨tyS Tryd.t175 Tryd.underlying175, ?_⟩
    refine ⟨tyS Tryd.t176 Tryd.underlying176, ?_⟩
    refine ⟨tyS Tryd.t177 Tryd.underlying177, ?_⟩
    refine ⟨tyS Tryd.t178 Tryd.underlying178, ?_⟩
    refine ⟨tyS Tryd.t179 Tryd.underlying179, ?_⟩
    refine ⟨tyS Tryd.t180 Tryd.underlying180, ?_⟩
    refine ⟨tyS Tryd.t181 Tryd.underlying181, ?_⟩
    refine ⟨tyS Tryd.t182 Tryd.underlying182, ?_⟩
    refine ⟨tyS Tryd.t183 Tryd.underlying183, ?_⟩
    refine ⟨tyS Tryd.t184 Tryd.underlying184, ?_⟩
    refine ⟨tyS Tryd.t185 Tryd.underlying185, ?_⟩
    refine ⟨tyS Tryd.t186 Tryd.underlying186, ?_⟩
    refine ⟨tyS Tryd.t187 Tryd.underlying187, ?_⟩
    refine ⟨tyS Tryd.t188 Tryd.underlying188, ?_⟩
    refine ⟨tyS Tryd.t189 Tryd.underlying189, ?_⟩
    refine ⟨tyS Tryd.t190 Tryd.underlying190, ?_⟩
    refine ⟨tyS Tryd.t192 Tryd.underlying192, ?_⟩
    refine ⟨tyS Tryd.t193 Tryd.underlying193, ?_⟩
    refine ⟨tyS Tryd.t194 Tryd.underlying194, ?_⟩
    refine ⟨tyS Tryd.t195 Tryd.underlying195, ?_⟩
    refine ⟨tyS Tryd.t196 Tryd.underlying196, ?_⟩
    refine ⟨tyS Tryd.t197 Tryd.underlying197, ?_⟩
    refine ⟨tyS Tryd.t198 Tryd.underlying198, ?_⟩
    refine ⟨tyS Tryd.t199 Tryd.underlying199, ?_⟩
    refine ⟨tyS Tryd.t200 Tryd.underlying200, ?_⟩
    refine ⟨tyS Tryd.t201 Tryd.underlying201, ?_⟩
    refine ⟨tyS Tryd.t202 Tryd.underlying202, ?_⟩
    refine ⟨tyS Tryd.t203 Tryd.underlying203, ?_⟩
    refine ⟨tyS Tryd.t204 Tryd.underlying204, ?_⟩
    refine ⟨tyS Tryd.t205 Tryd.underlying205, ?_⟩
    refine ⟨tyS Tryd.t206 Tryd.underlying206, ?_⟩
    refine ⟨tyS Tryd.t207 Tryd.underlying207, ?_⟩
    refine ⟨tyS Tryd.t208 Tryd.underlying208, ?_⟩
    refine ⟨tyS Tryd.t209 Tryd.underlying209, ?_⟩
    refine ⟨tyS Tryd.t210 Tryd.underlying210, ?_⟩
    refine ⟨tyS Tryd.t211 Tryd.underlying211, ?_⟩
    refine ⟨tyS Tryd.t212 Tryd.underlying212, ?_⟩
    refine ⟨tyS Tryd.t213 Tryd.underlying213, ?_⟩
    refine ⟨tyS Tryd.t214 Tryd.underlying214, ?_⟩
    refine ⟨tyS Tryd.t215 Tryd.underlying215, ?_⟩
    refine ⟨tyS Tryd.t216 Tryd.underlying216, ?_⟩
    refine ⟨tyS Tryd.t218 Tryd.underlying218, ?_⟩
    refine ⟨tyS Tryd.t219 Tryd.underlying219, ?_⟩
    refine ⟨tyS Tryd.t220 Tryd.underlying220, ?_⟩
    refine ⟨tyS Tryd.t221 Tryd.underlying221, ?_⟩
    refine ⟨tyS Tryd.t222 Tryd.underlying222, ?_⟩
    refine ⟨tyS Tryd.t223 Tryd.underlying223, ?_⟩
    refine ⟨tyS Tryd.t224 Tryd.underlying224, ?_⟩
    refine ⟨tyS Tryd.t225 Tryd.underlying225, ?_⟩
    refine ⟨tyS Tryd.t226 Tryd.underlying226, ?_⟩
    refine ⟨tyS Tryd.t227 Tryd.underlying227, ?_⟩
    refine ⟨tyS Tryd.t228 Tryd.underlying228, ?_⟩
    refine ⟨tyS Tryd.t229 Tryd.underlying229, ?_⟩
    refine ⟨tyS Tryd.t230 Tryd.underlying230, ?_⟩
    refine ⟨tyS Tryd.t231 Tryd.underlying231, ?_⟩
    refine ⟨tyS Tryd.t232 Tryd.underlying232, ?_⟩
    refine ⟨tyS Tryd.t233 Tryd.underlying233, ?_⟩
    exact trivial
  unfold Tryd.τ at h
  have h2 : Tryd.tL[T]? = some (some e) := by
    cases ht : Tryd.tL[T]? with
    | none => rw [ht] at h; cases h
    | some x => rw [ht] at h; exact congrArg some h
  have := AllOk.at _ 0 T e hL h2
  rwa [Nat.zero_add] at this

theorem Tryd.mixed : Tryd.prog.follows .mixedOrders = true := by kernel_rfl

theorem Tryd.body6 : Body Tryd.prog 6 := ⟨Tryd.f6, _, Tryd.func6, rfl, by kernel_rfl⟩
theorem Tryd.body7 : Body Tryd.prog 7 := ⟨Tryd.f7, _, Tryd.func7, rfl, by kernel_rfl⟩
theorem Tryd.body8 : Body Tryd.prog 8 := ⟨Tryd.f8, _, Tryd.func8, rfl, by kernel_rfl⟩
theorem Tryd.body9 : Body Tryd.prog 9 := ⟨Tryd.f9, _, Tryd.func9, rfl, by kernel_rfl⟩
theorem Tryd.body10 : Body Tryd.prog 10 := ⟨Tryd.f10, _, Tryd.func10, rfl, by kernel_rfl⟩
theorem Tryd.body11 : Body Tryd.prog 11 := ⟨Tryd.f11, _, Tryd.func11, rfl, by kernel_rfl⟩
theorem Tryd.body12 : Body Tryd.prog 12 := ⟨Tryd.f12, _, Tryd.func12, rfl, by kernel_rfl⟩
theorem Tryd.body13 : Body Tryd.prog 13 := ⟨Tryd.f13, _, Tryd.func13, rfl, by kernel_rfl⟩
theorem Tryd.body14 : Body Tryd.prog 14 := ⟨Tryd.f14, _, Tryd.func14, rfl, by kernel_rfl⟩
theorem Tryd.body15 : Body Tryd.prog 15 := ⟨Tryd.f15, _, Tryd.func15, rfl, by kernel_rfl⟩
theorem Tryd.body16 : Body Tryd.prog 16 := ⟨Tryd.f16, _, Tryd.func16, rfl, by kernel_rfl⟩
theorem Tryd.body17 : Body Tryd.prog 17 := ⟨Tryd.f17, _, Tryd.func17, rfl, by kernel_rfl⟩
theorem Tryd.body18 : Body Tryd.prog 18 := ⟨Tryd.f18, _, Tryd.func18, rfl, by kernel_rfl⟩
theorem Tryd.body19 : Body Tryd.prog 19 := ⟨Tryd.f19, _, Tryd.func19, rfl, by kernel_rfl⟩
theorem Tryd.body20 : Body Tryd.prog 20 := ⟨Tryd.f20, _, Tryd.func20, rfl, by kernel_rfl⟩
theorem Tryd.body21 : Body Tryd.prog 21 := ⟨Tryd.f21, _, Tryd.func21, rfl, by kernel_rfl⟩
theorem Tryd.body22 : Body Tryd.prog 22 := ⟨Tryd.f22, _, Tryd.func22, rfl, by kernel_rfl⟩
theorem Tryd.body23 : Body Tryd.prog 23 := ⟨Tryd.f23, _, Tryd.func23, rfl, by kernel_rfl⟩
theorem Tryd.body24 : Body Tryd.prog 24 := ⟨Tryd.f24, _, Tryd.func24, rfl, by kernel_rfl⟩
theorem Tryd.body25 : Body Tryd.prog 25 := ⟨Tryd.f25, _, Tryd.func25, rfl, by kernel_rfl⟩
theorem Tryd.body26 : Body Tryd.prog 26 := ⟨Tryd.f26, _, Tryd.func26, rfl, by kernel_rfl⟩
theorem Tryd.body27 : Body Tryd.prog 27 := ⟨Tryd.f27, _, Tryd.func27, rfl, by kernel_rfl⟩
theorem Tryd.body28 : Body Tryd.prog 28 := ⟨Tryd.f28, _, Tryd.func28, rfl, by kernel_rfl⟩
theorem Tryd.body29 : Body Tryd.prog 29 := ⟨Tryd.f29, _, Tryd.func29, rfl, by kernel_rfl⟩
theorem Tryd.body30 : Body Tryd.prog 30 := ⟨Tryd.f30, _, Tryd.func30, rfl, by kernel_rfl⟩
theorem Tryd.body31 : Body Tryd.prog 31 := ⟨Tryd.f31, _, Tryd.func31, rfl, by kernel_rfl⟩
theorem Tryd.body32 : Body Tryd.prog 32 := ⟨Tryd.f32, _, Tryd.func32, rfl, by kernel_rfl⟩
theorem Tryd.body33 : Body Tryd.prog 33 := ⟨Tryd.f33, _, Tryd.func33, rfl, by kernel_rfl⟩
theorem Tryd.body34 : Body Tryd.prog 34 := ⟨Tryd.f34, _, Tryd.func34, rfl, by kernel_rfl⟩
theorem Tryd.body35 : Body Tryd.prog 35 := ⟨Tryd.f35, _, Tryd.func35, rfl, by kernel_rfl⟩
theorem Tryd.body36 : Body Tryd.prog 36 := ⟨Tryd.f36, _, Tryd.func36, rfl, by kernel_rfl⟩
theorem Tryd.body37 : Body Tryd.prog 37 := ⟨Tryd.f37, _, Tryd.func37, rfl, by kernel_rfl⟩
theorem Tryd.body38 : Body Tryd.prog 38 := ⟨Tryd.f38, _, Tryd.func38, rfl, by kernel_rfl⟩
theorem Tryd.body39 : Body Tryd.prog 39 := ⟨Tryd.f39, _, Tryd.func39, rfl, by kernel_rfl⟩
theorem Tryd.body40 : Body Tryd.prog 40 := ⟨Tryd.f40, _, Tryd.func40, rfl, by kernel_rfl⟩
theorem Tryd.body41 : Body Tryd.prog 41 := ⟨Tryd.f41, _, Tryd.func41, rfl, by kernel_rfl⟩
theorem Tryd.body42 : Body Tryd.prog 42 := ⟨Tryd.f42, _, Tryd.func42, rfl, by kernel_rfl⟩
theorem Tryd.body43 : Body Tryd.prog 43 := ⟨Tryd.f43, _, Tryd.func43, rfl, by kernel_rfl⟩
theorem Tryd.body44 : Body Tryd.prog 44 := ⟨Tryd.f44, _, Tryd.func44, rfl, by kernel_rfl⟩
theorem Tryd.body45 : Body Tryd.prog 45 := ⟨Tryd.f45, _, Tryd.func45, rfl, by kernel_rfl⟩
theorem Tryd.body46 : Body Tryd.prog 46 := ⟨Tryd.f46, _, Tryd.func46, rfl, by kernel_rfl⟩
theorem Tryd.body47 : Body Tryd.prog 47 := ⟨Tryd.f47, _, Tryd.func47, rfl, by kernel_rfl⟩
theorem Tryd.body48 : Body Tryd.prog 48 := ⟨Tryd.f48, _, Tryd.func48, rfl, by kernel_rfl⟩
theorem Tryd.body49 : Body Tryd.prog 49 := ⟨Tryd.f49, _, Tryd.func49, rfl, by kernel_rfl⟩
theorem Tryd.body50 : Body Tryd.prog 50 := ⟨Tryd.f50, _, Tryd.func50, rfl, by kernel_rfl⟩
theorem Tryd.body51 : Body Tryd.prog 51 := ⟨Tryd.f51, _, Tryd.func51, rfl, by kernel_rfl⟩
theorem Tryd.body52 : Body Tryd.prog 52 := ⟨Tryd.f52, _, Tryd.func52, rfl, by kernel_rfl⟩
theorem Tryd.body53 : Body Tryd.prog 53 := ⟨Tryd.f53, _, Tryd.func53, rfl, by kernel_rfl⟩
theorem Tryd.body54 : Body Tryd.prog 54 := ⟨Tryd.f54, _, Tryd.func54, rfl, by kernel_rfl⟩
theorem Tryd.body55 : Body Tryd.prog 55 := ⟨Tryd.f55, _, Tryd.func55, rfl, by kernel_rfl⟩
theorem Tryd.body56 : Body Tryd.prog 56 := ⟨Tryd.f56, _, Tryd.func56, rfl, by kernel_rfl⟩
theorem Tryd.body57 : Body Tryd.prog 57 := ⟨Tryd.f57, _, Tryd.func57, rfl, by kernel_rfl⟩
theorem Tryd.body58 : Body Tryd.prog 58 := ⟨Tryd.f58, _, Tryd.func58, rfl, by kernel_rfl⟩
theorem Tryd.body59 : Body Tryd.prog 59 := ⟨Tryd.f59, _, Tryd.func59, rfl, by kernel_rfl⟩
theorem Tryd.body60 : Body Tryd.prog 60 := ⟨Tryd.f60, _, Tryd.func60, rfl, by kernel_rfl⟩
theorem Tryd.body61 : Body Tryd.prog 61 := ⟨Tryd.f61, _, Tryd.func61, rfl, by kernel_rfl⟩
theorem Tryd.body62 : Body Tryd.prog 62 := ⟨Tryd.f62, _, Tryd.func62, rfl, by kernel_rfl⟩
theorem Tryd.body63 : Body Tryd.prog 63 := ⟨Tryd.f63, _, Tryd.func63, rfl, by kernel_rfl⟩
theorem Tryd.body64 : Body Tryd.prog 64 := ⟨Tryd.f64, _, Tryd.func64, rfl, by kernel_rfl⟩
theorem Tryd.body65 : Body Tryd.prog 65 := ⟨Tryd.f65, _, Tryd.func65, rfl, by kernel_rfl⟩
theorem Tryd.body66 : Body Tryd.prog 66 := ⟨Tryd.f66, _, Tryd.func66, rfl, by kernel_rfl⟩
theorem Tryd.body67 : Body Tryd.prog 67 := ⟨Tryd.f67, _, Tryd.func67, rfl, by kernel_rfl⟩
theorem Tryd.body68 : Body Tryd.prog 68 := ⟨Tryd.f68, _, Tryd.func68, rfl, by kernel_rfl⟩
theorem Tryd.body69 : Body Tryd.prog 69 := ⟨Tryd.f69, _, Tryd.func69, rfl, by kernel_rfl⟩
theorem Tryd.body73 : Body Tryd.prog 73 := ⟨Tryd.f73, _, Tryd.func73, rfl, by kernel_rfl⟩
theorem Tryd.body75 : Body Tryd.prog 75 := ⟨Tryd.f75, _, Tryd.func75, rfl, by kernel_rfl⟩
theorem Tryd.body76 : Body Tryd.prog 76 := ⟨Tryd.f76, _, Tryd.func76, rfl, by kernel_rfl⟩
theorem Tryd.body78 : Body Tryd.prog 78 := ⟨Tryd.f78, _, Tryd.func78, rfl, by kernel_rfl⟩
theorem Tryd.body79 : Body Tryd.prog 79 := ⟨Tryd.f79, _, Tryd.func79, rfl, by kernel_rfl⟩
theorem Tryd.body80 : Body Tryd.prog 80 := ⟨Tryd.f80, _, Tryd.func80, rfl, by kernel_rfl⟩
theorem Tryd.body90 : Body Tryd.prog 90 := ⟨Tryd.f90, _, Tryd.func90, rfl, by kernel_rfl⟩
theorem Tryd.body91 : Body Tryd.prog 91 := ⟨Tryd.f91, _, Tryd.func91, rfl, by kernel_rfl⟩
theorem Tryd.body92 : Body Tryd.prog 92 := ⟨Tryd.f92, _, Tryd.func92, rfl, by kernel_rfl⟩
theorem Tryd.body93 : Body Tryd.prog 93 := ⟨Tryd.f93, _, Tryd.func93, rfl, by kernel_rfl⟩
theorem Tryd.body94 : Body Tryd.prog 94 := ⟨Tryd.f94, _, Tryd.func94, rfl, by kernel_rfl⟩
theorem Tryd.body95 : Body Tryd.prog 95 := ⟨Tryd.f95, _, Tryd.func95, rfl, by kernel_rfl⟩
theorem Tryd.body96 : Body Tryd.prog 96 := ⟨Tryd.f96, _, Tryd.func96, rfl, by kernel_rfl⟩
theorem Tryd.body103 : Body Tryd.prog 103 := ⟨Tryd.f103, _, Tryd.func103, rfl, by kernel_rfl⟩
instance : Glob := ⟨fun
  | 11 => some [.v (.int .u32 1779033703), .v (.int .u32 3144134277), .v (.int .u32 1013904242), .v (.int .u32 2773480762), .v (.int .u32 1359893119), .v (.int .u32 2600822924), .v (.int .u32 528734635), .v (.int .u32 1541459225)]
  | 13 => some [.v (.int .u8 0), .v (.int .u8 1), .v (.int .u8 2), .v (.int .u8 3), .v (.int .u8 4), .v (.int .u8 5), .v (.int .u8 6), .v (.int .u8 7), .v (.int .u8 8), .v (.int .u8 9), .v (.int .u8 10), .v (.int .u8 11), .v (.int .u8 12), .v (.int .u8 13), .v (.int .u8 14), .v (.int .u8 15), .v (.int .u8 14), .v (.int .u8 10), .v (.int .u8 4), .v (.int .u8 8), .v (.int .u8 9), .v (.int .u8 15), .v (.int .u8 13), .v (.int .u8 6), .v (.int .u8 1), .v (.int .u8 12), .v (.int .u8 0), .v (.int .u8 2), .v (.int .u8 11), .v (.int .u8 7), .v (.int .u8 5), .v (.int .u8 3), .v (.int .u8 11), .v (.int .u8 8), .v (.int .u8 12), .v (.int .u8 0), .v (.int .u8 5), .v (.int .u8 2), .v (.int .u8 15), .v (.int .u8 13), .v (.int .u8 10), .v (.int .u8 14), .v (.int .u8 3), .v (.int .u8 6), .v (.int .u8 7), .v (.int .u8 1), .v (.int .u8 9), .v (.int .u8 4), .v (.int .u8 7), .v (.int .u8 9), .v (.int .u8 3), .v (.int .u8 1), .v (.int .u8 13), .v (.int .u8 12), .v (.int .u8 11), .v (.int .u8 14), .v (.int .u8 2), .v (.int .u8 6), .v (.int .u8 5), .v (.int .u8 10), .v (.int .u8 4), .v (.int .u8 0), .v (.int .u8 15), .v (.int .u8 8), .v (.int .u8 9), .v (.int .u8 0), .v (.int .u8 5), .v (.int .u8 7), .v (.int .u8 2), .v (.int .u8 4), .v (.int .u8 10), .v (.int .u8 15), .v (.int .u8 14), .v (.int .u8 1), .v (.int .u8 11), .v (.int .u8 12), .v (.int .u8 6), .v (.int .u8 8), .v (.int .u8 3), .v (.int .u8 13), .v (.int .u8 2), .v (.int .u8 12), .v (.int .u8 6), .v (.int .u8 10), .v (.int .u8 0), .v (.int .u8 11), .v (.int .u8 8), .v (.int .u8 3), .v (.int .u8 4), .v (.int .u8 13), .v (.int .u8 7), .v (.int .u8 5), .v (.int .u8 15), .v (.int .u8 14), .v (.int .u8 1), .v (.int .u8 9), .v (.int .u8 12), .v (.int .u8 5), .v (.int .u8 1), .v (.int .u8 15), .v (.int .u8 14), .v (.int .u8 13), .v (.int .u8 4), .v (.int .u8 10), .v (.int .u8 0), .v (.int .u8 7), .v (.int .u8 6), .v (.int .u8 3), .v (.int .u8 9), .v (.int .u8 2), .v (.int .u8 8), .v (.int .u8 11), .v (.int .u8 13), .v (.int .u8 11), .v (.int .u8 7), .v (.int .u8 14), .v (.int .u8 12), .v (.int .u8 1), .v (.int .u8 3), .v (.int .u8 9), .v (.int .u8 5), .v (.int .u8 0), .v (.int .u8 15), .v (.int .u8 4), .v (.int .u8 8), .v (.int .u8 6), .v (.int .u8 2), .v (.int .u8 10), .v (.int .u8 6), .v (.int .u8 15), .v (.int .u8 14), .v (.int .u8 9), .v (.int .u8 11), .v (.int .u8 3), .v (.int .u8 0), .v (.int .u8 8), .v (.int .u8 12), .v (.int .u8 2), .v (.int .u8 13), .v (.int .u8 7), .v (.int .u8 1), .v (.int .u8 4), .v (.int .u8 10), .v (.int .u8 5), .v (.int .u8 10), .v (.int .u8 2), .v (.int .u8 8), .v (.int .u8 4), .v (.int .u8 7), .v (.int .u8 6), .v (.int .u8 1), .v (.int .u8 5), .v (.int .u8 15), .v (.int .u8 11), .v (.int .u8 9), .v (.int .u8 14), .v (.int .u8 3), .v (.int .u8 12), .v (.int .u8 13), .v (.int .u8 0)]
  | 1 => some [.v (.int .i64 (-1099511627776)), .v (.int .i64 1099511627776)]
  | 5 => some [.v (.int .i64 0), .v (.int .i64 1099511627776)]
  | 0 => some [.v (.int .i64 1), .v (.int .i64 9999)]
  | 3 => some [.v (.int .i64 0), .v (.int .i64 39)]
  | 4 => some [.v (.int .i64 0), .v (.int .i64 255)]
  | 2 => some [.v (.int .i64 0), .v (.int .i64 1048576)]
  | 6 => some [.v (.int .i64 0), .v (.int .i64 255)]
  | 7 => some [.v (.int .i64 1), .v (.int .i64 1048576)]
  | 9 => some [.v (.int .i64 0), .v (.int .i64 31)]
  | 10 => some [.v (.int .i64 1), .v (.int .i64 1048576)]
  | 8 => some [.v (.int .i64 0), .v (.int .i64 1)]
  | _ => none⟩
@[simp] theorem Tryd.laid11 : (Glob.laid 11 : Option (List D)) = some [.v (.int .u32 1779033703), .v (.int .u32 3144134277), .v (.int .u32 1013904242), .v (.int .u32 2773480762), .v (.int .u32 1359893119), .v (.int .u32 2600822924), .v (.int .u32 528734635), .v (.int .u32 1541459225)] := rfl
@[simp] theorem Tryd.laid13 : (Glob.laid 13 : Option (List D)) = some [.v (.int .u8 0), .v (.int .u8 1), .v (.int .u8 2), .v (.int .u8 3), .v (.int .u8 4), .v (.int .u8 5), .v (.int .u8 6), .v (.int .u8 7), .v (.int .u8 8), .v (.int .u8 9), .v (.int .u8 10), .v (.int .u8 11), .v (.int .u8 12), .v (.int .u8 13), .v (.int .u8 14), .v (.int .u8 15), .v (.int .u8 14), .v (.int .u8 10), .v (.int .u8 4), .v (.int .u8 8), .v (.int .u8 9), .v (.int .u8 15), .v (.int .u8 13), .v (.int .u8 6), .v (.int .u8 1), .v (.int .u8 12), .v (.int .u8 0), .v (.int .u8 2), .v (.int .u8 11), .v (.int .u8 7), .v (.int .u8 5), .v (.int .u8 3), .v (.int .u8 11), .v (.int .u8 8), .v (.int .u8 12), .v (.int .u8 0), .v (.int .u8 5), .v (.int .u8 2), .v (.int .u8 15), .v (.int .u8 13), .v (.int .u8 10), .v (.int .u8 14), .v (.int .u8 3), .v (.int .u8 6), .v (.int .u8 7), .v (.int .u8 1), .v (.int .u8 9), .v (.int .u8 4), .v (.int .u8 7), .v (.int .u8 9), .v (.int .u8 3), .v (.int .u8 1), .v (.int .u8 13), .v (.int .u8 12), .v (.int .u8 11), .v (.int .u8 14), .v (.int .u8 2), .v (.int .u8 6), .v (.int .u8 5), .v (.int .u8 10), .v (.int .u8 4), .v (.int .u8 0), .v (.int .u8 15), .v (.int .u8 8), .v (.int .u8 9), .v (.int .u8 0), .v (.int .u8 5), .v (.int .u8 7), .v (.int .u8 2), .v (.int .u8 4), .v (.int .u8 10), .v (.int .u8 15), .v (.int .u8 14), .v (.int .u8 1), .v (.int .u8 11), .v (.int .u8 12), .v (.int .u8 6), .v (.int .u8 8), .v (.int .u8 3), .v (.int .u8 13), .v (.int .u8 2), .v (.int .u8 12), .v (.int .u8 6), .v (.int .u8 10), .v (.int .u8 0), .v (.int .u8 11), .v (.int .u8 8), .v (.int .u8 3), .v (.int .u8 4), .v (.int .u8 13), .v (.int .u8 7), .v (.int .u8 5), .v (.int .u8 15), .v (.int .u8 14), .v (.int .u8 1), .v (.int .u8 9), .v (.int .u8 12), .v (.int .u8 5), .v (.int .u8 1), .v (.int .u8 15), .v (.int .u8 14), .v (.int .u8 13), .v (.int .u8 4), .v (.int .u8 10), .v (.int .u8 0), .v (.int .u8 7), .v (.int .u8 6), .v (.int .u8 3), .v (.int .u8 9), .v (.int .u8 2), .v (.int .u8 8), .v (.int .u8 11), .v (.int .u8 13), .v (.int .u8 11), .v (.int .u8 7), .v (.int .u8 14), .v (.int .u8 12), .v (.int .u8 1), .v (.int .u8 3), .v (.int .u8 9), .v (.int .u8 5), .v (.int .u8 0), .v (.int .u8 15), .v (.int .u8 4), .v (.int .u8 8), .v (.int .u8 6), .v (.int .u8 2), .v (.int .u8 10), .v (.int .u8 6), .v (.int .u8 15), .v (.int .u8 14), .v (.int .u8 9), .v (.int .u8 11), .v (.int .u8 3), .v (.int .u8 0), .v (.int .u8 8), .v (.int .u8 12), .v (.int .u8 2), .v (.int .u8 13), .v (.int .u8 7), .v (.int .u8 1), .v (.int .u8 4), .v (.int .u8 10), .v (.int .u8 5), .v (.int .u8 10), .v (.int .u8 2), .v (.int .u8 8), .v (.int .u8 4), .v (.int .u8 7), .v (.int .u8 6), .v (.int .u8 1), .v (.int .u8 5), .v (.int .u8 15), .v (.int .u8 11), .v (.int .u8 9), .v (.int .u8 14), .v (.int .u8 3), .v (.int .u8 12), .v (.int .u8 13), .v (.int .u8 0)] := rfl
@[simp] theorem Tryd.laid1 : (Glob.laid 1 : Option (List D)) = some [.v (.int .i64 (-1099511627776)), .v (.int .i64 1099511627776)] := rfl
@[simp] theorem Tryd.laid5 : (Glob.laid 5 : Option (List D)) = some [.v (.int .i64 0), .v (.int .i64 1099511627776)] := rfl
@[simp] theorem Tryd.laid0 : (Glob.laid 0 : Option (List D)) = some [.v (.int .i64 1), .v (.int .i64 9999)] := rfl
@[simp] theorem Tryd.laid3 : (Glob.laid 3 : Option (List D)) = some [.v (.int .i64 0), .v (.int .i64 39)] := rfl
@[simp] theorem Tryd.laid4 : (Glob.laid 4 : Option (List D)) = some [.v (.int .i64 0), .v (.int .i64 255)] := rfl
@[simp] theorem Tryd.laid2 : (Glob.laid 2 : Option (List D)) = some [.v (.int .i64 0), .v (.int .i64 1048576)] := rfl
@[simp] theorem Tryd.laid6 : (Glob.laid 6 : Option (List D)) = some [.v (.int .i64 0), .v (.int .i64 255)] := rfl
@[simp] theorem Tryd.laid7 : (Glob.laid 7 : Option (List D)) = some [.v (.int .i64 1), .v (.int .i64 1048576)] := rfl
@[simp] theorem Tryd.laid9 : (Glob.laid 9 : Option (List D)) = some [.v (.int .i64 0), .v (.int .i64 31)] := rfl
@[simp] theorem Tryd.laid10 : (Glob.laid 10 : Option (List D)) = some [.v (.int .i64 1), .v (.int .i64 1048576)] := rfl
@[simp] theorem Tryd.laid8 : (Glob.laid 8 : Option (List D)) = some [.v (.int .i64 0), .v (.int .i64 1)] := rfl

end Go.Proofs.YtaplgjnlfleklaaDoor

namespace Go.Proofs.YtaplgjnlfleklaaDoor
open Go.Xe
/-- Of two claims the first by the usual means. -/
theorem aI {p q : Prop} (hq : q) (hp : p := by first | rfl | omega | decide | (simp; done) | (simp; omega) | (intro _ h; exact fcs_side h; done) | (intros; simp_all; done) | (intros; simp_all; omega)) : p ∧ q := ⟨hp, hq⟩
/-- One step into a code of a told form. -/
class Gn (P : Program) (ds : Dn) (pn : Pn) (c : Code) (Q : Exit → St → Prop) (S : St) (G : outParam Prop) : Prop where
  go : G → WP P ds pn c Q S
instance (P : Program) (ds : Dn) (pn : Pn) (Q : Exit → St → Prop) (S : St) (x y : Code) : Gn P ds pn (.seq x y) Q S (WP P ds pn x (seqQ P ds pn y Q) S) := ⟨WP.seq⟩
instance (P : Program) (ds : Dn) (pn : Pn) (Q : Exit → St → Prop) (S : St) (id : Nat) (c : Code) : Gn P ds pn (.block id c) Q S (WP P ds pn c (blkQ id Q) S) := ⟨WP.block⟩
theorem wG {P : Program} {ds : Dn} {pn : Pn} {c : Code} {Q : Exit → St → Prop} {S : St} {G : Prop} [i : Gn P ds pn c Q S G] (g : G) : WP P ds pn c Q S := i.go g
theorem wR {ds : Dn} {pn : Pn} {Q : Exit → St → Prop} {S : St} {id : Nat} {l : List Oper} {b : Bool} (h : vcOps Tryd.prog ds pn Tryd.τ (l.map (·.dst)) (fun tis S' => (b = true → freshS S (tis.flatMap fun t => t.e.add)) ∧ (b = true → drawOkT (pn.zs.map (·.1)) (l.map (·.dst)) l (tis.map TI.ts) = true) ∧ Q .normal S') l S []) : WP Tryd.prog ds pn (.region id l.toArray b) Q S := by
  cases b with
  | false =>
    refine WP.region Tryd.tab ?_
    have e : (fun (tis : List TI) (S' : St) => (false = true → freshS S (tis.flatMap fun t => t.e.add)) ∧ (false = true → drawOkT (pn.zs.map (·.1)) (l.map (·.dst)) l (tis.map TI.ts) = true) ∧ Q .normal S') = fun _ S' => Q .normal S' := by funext tis S'; simp
    rwa [e] at h
  | true =>
    refine WP.draw Tryd.tab Tryd.mixed ?_
    have e : (fun (tis : List TI) (S' : St) => (true = true → freshS S (tis.flatMap fun t => t.e.add)) ∧ (true = true → drawOkT (pn.zs.map (·.1)) (l.map (·.dst)) l (tis.map TI.ts) = true) ∧ Q .normal S') = fun tis S' => freshS S (tis.flatMap fun t => t.e.add) ∧ drawOkT (pn.zs.map (·.1)) (l.map (·.dst)) l (tis.map TI.ts) = true ∧ Q .normal S' := by funext tis S'; simp
    rwa [e] at h
theorem cF {ds : Dn} {pn : Pn} {Q : Exit → St → Prop} {S : St} {o : Operand} {x y : Code} (he : S.ev o = .d (.v (.bool false))) (h : WP Tryd.prog ds pn y Q S) : WP Tryd.prog ds pn (.cond o x y) Q S := WP.cond (b := false) he (fun h => by cases h) (fun _ => h)
theorem cT {ds : Dn} {pn : Pn} {Q : Exit → St → Prop} {S : St} {o : Operand} {x y : Code} (he : S.ev o = .d (.v (.bool true))) (h : WP Tryd.prog ds pn x Q S) : WP Tryd.prog ds pn (.cond o x y) Q S := WP.cond (b := true) he (fun _ => h) (fun h => by cases h)
end Go.Proofs.YtaplgjnlfleklaaDoor
