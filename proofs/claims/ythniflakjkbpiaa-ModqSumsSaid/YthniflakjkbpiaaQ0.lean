/-
  Types of package modq.
-/
import Derived.Test.YthniflakjkbpiaaKO
namespace Go.Proofs.Ythniflakjkbpiaa
open Go Go.Ab
set_option linter.unusedSimpArgs false
set_option linter.unusedVariables false
theorem tf40_row : rowOf Try.prog 40 = some false := by kernel_rfl
theorem tf40_sz : Try.prog.cellsOf 40 = 1 := by kernel_rfl
theorem tf40_szO : szO Try.prog 40 = some 1 := by kernel_rfl
theorem tf40_slc : slcOf Try.prog 40 = some 24 := by kernel_rfl
theorem tf40_arr : arrOf Try.prog 40 = none := by kernel_rfl
theorem tf40_isSlc : isSlc Try.prog 40 = true := by kernel_rfl
theorem tf40_zero : zeroA Try.prog 40 = some [.v (.slice none 0 0)] := by kernel_rfl
theorem tf51_row : rowOf Try.prog 51 = some false := by kernel_rfl
theorem tf51_sz : Try.prog.cellsOf 51 = 1 := by kernel_rfl
theorem tf51_szO : szO Try.prog 51 = some 1 := by kernel_rfl
theorem tf51_slc : slcOf Try.prog 51 = some 53 := by kernel_rfl
theorem tf51_arr : arrOf Try.prog 51 = none := by kernel_rfl
theorem tf51_isSlc : isSlc Try.prog 51 = true := by kernel_rfl
theorem tf51_zero : zeroA Try.prog 51 = some [.v (.slice none 0 0)] := by kernel_rfl
theorem tf53_row : rowOf Try.prog 53 = some true := by kernel_rfl
theorem tf53_sz : Try.prog.cellsOf 53 = 8 := by kernel_rfl
theorem tf53_szO : szO Try.prog 53 = some 8 := by kernel_rfl
theorem tf53_f0 : fieldOff Try.prog 53 0 = some (0, 24) := by kernel_rfl
theorem tf53_f1 : fieldOff Try.prog 53 1 = some (4, 24) := by kernel_rfl
theorem tf53_known : known Try.prog 53 = true := by kernel_rfl
theorem tf53_eq : eqTy Try.prog 53 = true := by kernel_rfl
theorem tf53_zero : zeroA Try.prog 53 = some [.v (.int .u64 0), .v (.int .u64 0), .v (.int .u64 0), .v (.int .u64 0), .v (.int .u64 0), .v (.int .u64 0), .v (.int .u64 0), .v (.int .u64 0)] := by kernel_rfl
theorem tf53_p0 : placeOf Try.prog 53 0 = some (0, 4) := by kernel_rfl
theorem tf53_p1 : placeOf Try.prog 53 1 = some (4, 4) := by kernel_rfl
theorem tf53_slc : slcOf Try.prog 53 = none := by kernel_rfl
end Go.Proofs.Ythniflakjkbpiaa
