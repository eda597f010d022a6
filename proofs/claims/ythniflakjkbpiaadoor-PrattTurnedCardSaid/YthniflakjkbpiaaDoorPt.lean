/-
  Types of package pratt.
-/
import Derived.Test.YthniflakjkbpiaaDoorKO
namespace Go.Proofs.YthniflakjkbpiaaDoor
open Go Go.Ab
set_option linter.unusedSimpArgs false
set_option linter.unusedVariables false
theorem tf43_row : rowOf Tryd.prog 43 = some true := by kernel_rfl
theorem tf43_sz : Tryd.prog.cellsOf 43 = 5 := by kernel_rfl
theorem tf43_szO : szO Tryd.prog 43 = some 5 := by kernel_rfl
theorem tf43_f0 : fieldOff Tryd.prog 43 0 = some (0, 26) := by kernel_rfl
theorem tf43_f1 : fieldOff Tryd.prog 43 1 = some (4, 3) := by kernel_rfl
theorem tf43_known : known Tryd.prog 43 = true := by kernel_rfl
theorem tf43_eq : eqTy Tryd.prog 43 = true := by kernel_rfl
theorem tf43_zero : zeroA Tryd.prog 43 = some [.v (.int .u64 0), .v (.int .u64 0), .v (.int .u64 0), .v (.int .u64 0), .v (.int .i64 0)] := by kernel_rfl
theorem tf43_p0 : placeOf Tryd.prog 43 0 = some (0, 4) := by kernel_rfl
theorem tf43_p1 : placeOf Tryd.prog 43 1 = some (4, 1) := by kernel_rfl
theorem tf43_slc : slcOf Tryd.prog 43 = none := by kernel_rfl
theorem tf22_row : rowOf Tryd.prog 22 = some false := by kernel_rfl
theorem tf22_sz : Tryd.prog.cellsOf 22 = 1 := by kernel_rfl
theorem tf22_szO : szO Tryd.prog 22 = some 1 := by kernel_rfl
theorem tf22_slc : slcOf Tryd.prog 22 = some 43 := by kernel_rfl
theorem tf22_arr : arrOf Tryd.prog 22 = none := by kernel_rfl
theorem tf22_isSlc : isSlc Tryd.prog 22 = true := by kernel_rfl
theorem tf22_zero : zeroA Tryd.prog 22 = some [.v (.slice none 0 0)] := by kernel_rfl
theorem tf32_row : rowOf Tryd.prog 32 = some true := by kernel_rfl
theorem tf32_sz : Tryd.prog.cellsOf 32 = 9 := by kernel_rfl
theorem tf32_szO : szO Tryd.prog 32 = some 9 := by kernel_rfl
theorem tf32_f0 : fieldOff Tryd.prog 32 0 = some (0, 26) := by kernel_rfl
theorem tf32_f1 : fieldOff Tryd.prog 32 1 = some (4, 26) := by kernel_rfl
theorem tf32_f2 : fieldOff Tryd.prog 32 2 = some (8, 22) := by kernel_rfl
theorem tf32_known : known Tryd.prog 32 = true := by kernel_rfl
theorem tf32_zero : zeroA Tryd.prog 32 = some [.v (.int .u64 0), .v (.int .u64 0), .v (.int .u64 0), .v (.int .u64 0), .v (.int .u64 0), .v (.int .u64 0), .v (.int .u64 0), .v (.int .u64 0), .v (.slice none 0 0)] := by kernel_rfl
theorem tf32_p0 : placeOf Tryd.prog 32 0 = some (0, 4) := by kernel_rfl
theorem tf32_p1 : placeOf Tryd.prog 32 1 = some (4, 4) := by kernel_rfl
theorem tf32_p2 : placeOf Tryd.prog 32 2 = some (8, 1) := by kernel_rfl
theorem tf32_slc : slcOf Tryd.prog 32 = none := by kernel_rfl
theorem tf34_row : rowOf Tryd.prog 34 = some false := by kernel_rfl
theorem tf34_sz : Tryd.prog.cellsOf 34 = 1 := by kernel_rfl
theorem tf34_szO : szO Tryd.prog 34 = some 1 := by kernel_rfl
theorem tf34_slc : slcOf Tryd.prog 34 = some 32 := by kernel_rfl
theorem tf34_arr : arrOf Tryd.prog 34 = none := by kernel_rfl
theorem tf34_isSlc : isSlc Tryd.prog 34 = true := by kernel_rfl
theorem tf34_zero : zeroA Tryd.prog 34 = some [.v (.slice none 0 0)] := by kernel_rfl
theorem tf61_row : rowOf Tryd.prog 61 = some false := by kernel_rfl
theorem tf61_sz : Tryd.prog.cellsOf 61 = 1 := by kernel_rfl
theorem tf61_szO : szO Tryd.prog 61 = some 1 := by kernel_rfl
theorem tf61_slc : slcOf Tryd.prog 61 = none := by kernel_rfl
end Go.Proofs.YthniflakjkbpiaaDoor
