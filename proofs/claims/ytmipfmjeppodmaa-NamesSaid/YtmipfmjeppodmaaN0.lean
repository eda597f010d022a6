import Derived.Test.YtmipfmjeppodmaaVc
import Derived.Test.YtmipfmjeppodmaaProg
namespace Go.Proofs.Ytmipfmjeppodmaa
open Go Go.Ab
set_option linter.unusedSimpArgs false
set_option linter.unusedVariables false
set_option linter.defProp false
theorem tf3_row : rowOf Try.prog 3 = some false := by kernel_rfl
theorem tf3_sz : Try.prog.cellsOf 3 = 1 := by kernel_rfl
theorem tf3_szO : szO Try.prog 3 = some 1 := by kernel_rfl
theorem tf3_slc : slcOf Try.prog 3 = none := by kernel_rfl
theorem tf3_int : intKindOf Try.prog 3 = some .i64 := by kernel_rfl
theorem tf3_zero : zeroA Try.prog 3 = some [.v (.int .i64 0)] := by kernel_rfl
theorem tf4_row : rowOf Try.prog 4 = some false := by kernel_rfl
theorem tf4_sz : Try.prog.cellsOf 4 = 1 := by kernel_rfl
theorem tf4_szO : szO Try.prog 4 = some 1 := by kernel_rfl
theorem tf4_slc : slcOf Try.prog 4 = none := by kernel_rfl
theorem tf4_bool : isBoolT Try.prog 4 = true := by kernel_rfl
theorem tf4_zero : zeroA Try.prog 4 = some [.v (.bool false)] := by kernel_rfl
def vcT := (And.intro (And.intro (And.intro @tf3_row (And.intro @tf3_sz @tf3_szO)) (And.intro @tf3_slc (And.intro @tf3_int @tf3_zero))) (And.intro (And.intro @tf4_row (And.intro @tf4_sz @tf4_szO)) (And.intro @tf4_slc (And.intro @tf4_bool @tf4_zero))))
end Go.Proofs.Ytmipfmjeppodmaa
