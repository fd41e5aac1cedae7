/-
  The laying of the library's sort at spans.
-/
import Derived.Test.YtphbappgmoojeaaKTab
import Derived.Test.YtphbappgmoojeaaK8
set_option linter.unusedSectionVars false
set_option linter.unusedSimpArgs false
set_option linter.unusedVariables false
namespace Go.Proofs.Ytphbappgmoojeaa
open Go.Xe Go.RowKit

def spanSortR : Go.Shelf.Ren := ⟨fun n => match n with
  | 6 => 57
  | 14 => 61
  | 15 => 62
  | 20 => 63
  | 21 => 64
  | 22 => 65
  | 23 => 66
  | 24 => 67
  | 25 => 68
  | 26 => 69
  | 27 => 70
  | 28 => 71
  | 29 => 72
  | 46 => 73
  | 47 => 74
  | 48 => 75
  | 49 => 76
  | 50 => 77
  | 57 => 78
  | n => n, fun n => match n with
  | 0 => 0
  | 3 => 3
  | 4 => 4
  | 5 => 5
  | 9 => 9
  | 22 => 22
  | 24 => 37
  | 25 => 62
  | 39 => 33
  | 45 => 75
  | 46 => 76
  | 50 => 80
  | 53 => 83
  | 55 => 85
  | 66 => 86
  | 70 => 90
  | 76 => 92
  | 77 => 93
  | n => n, fun n => n⟩
set_option maxRecDepth 100000 in
theorem spanSort_lay : Go.Proofs.SlLaysF0.n6 Try.prog spanSortR where
  mixed := Try.mixed
  f6 := ⟨(Try.f57).name, by kernel_rfl, by kernel_rfl⟩
  f14 := ⟨(Try.f61).name, by kernel_rfl, by kernel_rfl⟩
  f15 := by kernel_rfl
  f20 := ⟨(Try.f63).name, by kernel_rfl, by kernel_rfl⟩
  f21 := ⟨(Try.f64).name, by kernel_rfl, by kernel_rfl⟩
  f22 := ⟨(Try.f65).name, by kernel_rfl, by kernel_rfl⟩
  f23 := ⟨(Try.f66).name, by kernel_rfl, by kernel_rfl⟩
  f24 := ⟨(Try.f67).name, by kernel_rfl, by kernel_rfl⟩
  f25 := ⟨(Try.f68).name, by kernel_rfl, by kernel_rfl⟩
  f26 := ⟨(Try.f69).name, by kernel_rfl, by kernel_rfl⟩
  f27 := ⟨(Try.f70).name, by kernel_rfl, by kernel_rfl⟩
  f28 := by kernel_rfl
  f29 := by kernel_rfl
  f46 := ⟨(Try.f73).name, by kernel_rfl, by kernel_rfl⟩
  f47 := by kernel_rfl
  f48 := by kernel_rfl
  f49 := ⟨(Try.f76).name, by kernel_rfl, by kernel_rfl⟩
  f50 := ⟨(Try.f77).name, by kernel_rfl, by kernel_rfl⟩
  f57 := ⟨(Try.f78).name, by kernel_rfl, by kernel_rfl⟩
  t0 := Try.underlying0
  a0 := Try.isAgg0
  z0 := Try.sizeOf0
  v0 := Try.zeroValue0
  t3 := Try.underlying3
  a3 := Try.isAgg3
  z3 := Try.sizeOf3
  v3 := Try.zeroValue3
  t4 := Try.underlying4
  a4 := Try.isAgg4
  z4 := Try.sizeOf4
  v4 := Try.zeroValue4
  t5 := Try.underlying5
  a5 := Try.isAgg5
  z5 := Try.sizeOf5
  v5 := Try.zeroValue5
  t9 := Try.underlying9
  a9 := Try.isAgg9
  z9 := Try.sizeOf9
  v9 := Try.zeroValue9
  t22 := Try.underlying22
  a22 := Try.isAgg22
  z22 := Try.sizeOf22
  v22 := Try.zeroValue22
  t25 := Try.underlying62
  a25 := Try.isAgg62
  z25 := Try.sizeOf62
  v25 := Try.zeroValue62
  t39 := Try.underlying33
  a39 := Try.isAgg33
  z39 := Try.sizeOf33
  v39 := Try.zeroValue33
  t45 := Try.underlying75
  a45 := Try.isAgg75
  z45 := Try.sizeOf75
  v45 := Try.zeroValue75
  t46 := Try.underlying76
  a46 := Try.isAgg76
  z46 := Try.sizeOf76
  v46 := Try.zeroValue76
  t50 := Try.underlying80
  a50 := Try.isAgg80
  z50 := Try.sizeOf80
  v50 := Try.zeroValue80
  t53 := Try.underlying83
  a53 := Try.isAgg83
  z53 := Try.sizeOf83
  v53 := Try.zeroValue83
  t55 := Try.underlying85
  a55 := Try.isAgg85
  z55 := Try.sizeOf85
  v55 := Try.zeroValue85
  t66 := Try.underlying86
  a66 := Try.isAgg86
  z66 := Try.sizeOf86
  v66 := Try.zeroValue86
  t70 := Try.underlying90
  a70 := Try.isAgg90
  z70 := Try.sizeOf90
  v70 := Try.zeroValue90
  t76 := Try.underlying92
  a76 := Try.isAgg92
  z76 := Try.sizeOf92
  v76 := Try.zeroValue92
  t77 := Try.underlying93
  a77 := Try.isAgg93
  z77 := Try.sizeOf93
  v77 := Try.zeroValue93
end Go.Proofs.Ytphbappgmoojeaa
