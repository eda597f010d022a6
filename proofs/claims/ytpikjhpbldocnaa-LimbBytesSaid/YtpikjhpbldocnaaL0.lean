import Derived.Test.YtpikjhpbldocnaaVc
import Derived.Test.YtpikjhpbldocnaaProg
namespace Go.Proofs.Ytpikjhpbldocnaa
open Go Go.Ab
set_option linter.unusedSimpArgs false
set_option linter.unusedVariables false
set_option linter.defProp false
theorem tf24_row : rowOf Try.prog 24 = some true := by kernel_rfl
theorem tf24_sz : Try.prog.cellsOf 24 = 4 := by kernel_rfl
theorem tf24_szO : szO Try.prog 24 = some 4 := by kernel_rfl
theorem tf24_arr : arrOf Try.prog 24 = some (4, 22) := by kernel_rfl
theorem tf24_known : known Try.prog 24 = true := by kernel_rfl
theorem tf24_eq : eqTy Try.prog 24 = true := by kernel_rfl
theorem tf24_zero : zeroA Try.prog 24 = some (arr 4 fun _ => 0) := by kernel_rfl
theorem tf24_lits (f : Nat → Nat) (hf : ∀ i, i < 4 → f i < 18446744073709551616) : litsA Try.prog 24 (some (arr 4 f)) = some (lits 4 f) := litsA_arr (e := 22) (by kernel_rfl) (by kernel_rfl) (by kernel_rfl) (by kernel_rfl) hf
theorem tf24_litsN (a : Nat) : litsA Try.prog 24 (some (nat4 a)) = some (lits 4 (wd a)) := tf24_lits (wd a) fun _ _ => wd_lt a _
theorem tf24_u : Try.prog.underlying 24 = some (.array 4 22) := by kernel_rfl
theorem tf24_ce : Try.prog.cellsOf 22 = 1 := by kernel_rfl
theorem tf24_place (i : Nat) : placeOf Try.prog 24 i = some (i * 1, 1) := by simp only [placeOf, tf24_u, tf24_ce]
theorem tf24_slc : slcOf Try.prog 24 = none := by kernel_rfl
theorem tf23_row : rowOf Try.prog 23 = some true := by kernel_rfl
theorem tf23_sz : Try.prog.cellsOf 23 = 4 := by kernel_rfl
theorem tf23_szO : szO Try.prog 23 = some 4 := by kernel_rfl
theorem tf23_arr : arrOf Try.prog 23 = some (4, 22) := by kernel_rfl
theorem tf23_known : known Try.prog 23 = true := by kernel_rfl
theorem tf23_eq : eqTy Try.prog 23 = true := by kernel_rfl
theorem tf23_zero : zeroA Try.prog 23 = some (arr 4 fun _ => 0) := by kernel_rfl
theorem tf23_lits (f : Nat → Nat) (hf : ∀ i, i < 4 → f i < 18446744073709551616) : litsA Try.prog 23 (some (arr 4 f)) = some (lits 4 f) := litsA_arr (e := 22) (by kernel_rfl) (by kernel_rfl) (by kernel_rfl) (by kernel_rfl) hf
theorem tf23_litsN (a : Nat) : litsA Try.prog 23 (some (nat4 a)) = some (lits 4 (wd a)) := tf23_lits (wd a) fun _ _ => wd_lt a _
theorem tf23_u : Try.prog.underlying 23 = some (.array 4 22) := by kernel_rfl
theorem tf23_ce : Try.prog.cellsOf 22 = 1 := by kernel_rfl
theorem tf23_place (i : Nat) : placeOf Try.prog 23 i = some (i * 1, 1) := by simp only [placeOf, tf23_u, tf23_ce]
theorem tf23_slc : slcOf Try.prog 23 = none := by kernel_rfl
theorem tf22_row : rowOf Try.prog 22 = some false := by kernel_rfl
theorem tf22_sz : Try.prog.cellsOf 22 = 1 := by kernel_rfl
theorem tf22_szO : szO Try.prog 22 = some 1 := by kernel_rfl
theorem tf22_slc : slcOf Try.prog 22 = none := by kernel_rfl
theorem tf22_int : intKindOf Try.prog 22 = some .u64 := by kernel_rfl
theorem tf22_zero : zeroA Try.prog 22 = some [.v (.int .u64 0)] := by kernel_rfl
theorem tf3_row : rowOf Try.prog 3 = some false := by kernel_rfl
theorem tf3_sz : Try.prog.cellsOf 3 = 1 := by kernel_rfl
theorem tf3_szO : szO Try.prog 3 = some 1 := by kernel_rfl
theorem tf3_slc : slcOf Try.prog 3 = none := by kernel_rfl
theorem tf3_int : intKindOf Try.prog 3 = some .i64 := by kernel_rfl
theorem tf3_zero : zeroA Try.prog 3 = some [.v (.int .i64 0)] := by kernel_rfl
theorem tf4_row : rowOf Try.prog 4 = some false := by kernel_rfl
theorem tf4_sz : Try.prog.cellsOf 4 = 1 := by kernel_rfl
theorem tf4_szO : szO Try.prog 4 = some 1 := by kernel_rfl
theorem tf4_slc : slcOf Try.prog 4 = none := by kernel_rfl
theorem tf4_bool : isBoolT Try.prog 4 = true := by kernel_rfl
theorem tf4_zero : zeroA Try.prog 4 = some [.v (.bool false)] := by kernel_rfl
theorem tf38_row : rowOf Try.prog 38 = some true := by kernel_rfl
theorem tf38_sz : Try.prog.cellsOf 38 = 8 := by kernel_rfl
theorem tf38_szO : szO Try.prog 38 = some 8 := by kernel_rfl
theorem tf38_arr : arrOf Try.prog 38 = some (8, 22) := by kernel_rfl
theorem tf38_known : known Try.prog 38 = true := by kernel_rfl
theorem tf38_eq : eqTy Try.prog 38 = true := by kernel_rfl
theorem tf38_zero : zeroA Try.prog 38 = some (arr 8 fun _ => 0) := by kernel_rfl
theorem tf38_lits (f : Nat → Nat) (hf : ∀ i, i < 8 → f i < 18446744073709551616) : litsA Try.prog 38 (some (arr 8 f)) = some (lits 8 f) := litsA_arr (e := 22) (by kernel_rfl) (by kernel_rfl) (by kernel_rfl) (by kernel_rfl) hf
theorem tf38_litsN (a : Nat) : litsA Try.prog 38 (some (nat8 a)) = some (lits 8 (wd a)) := tf38_lits (wd a) fun _ _ => wd_lt a _
theorem tf38_u : Try.prog.underlying 38 = some (.array 8 22) := by kernel_rfl
theorem tf38_ce : Try.prog.cellsOf 22 = 1 := by kernel_rfl
theorem tf38_place (i : Nat) : placeOf Try.prog 38 i = some (i * 1, 1) := by simp only [placeOf, tf38_u, tf38_ce]
theorem tf38_slc : slcOf Try.prog 38 = none := by kernel_rfl
theorem tf39_row : rowOf Try.prog 39 = some false := by kernel_rfl
theorem tf39_sz : Try.prog.cellsOf 39 = 1 := by kernel_rfl
theorem tf39_szO : szO Try.prog 39 = some 1 := by kernel_rfl
theorem tf39_slc : slcOf Try.prog 39 = none := by kernel_rfl
theorem tf39_int : intKindOf Try.prog 39 = some .i64 := by kernel_rfl
theorem tf39_zero : zeroA Try.prog 39 = some [.v (.int .i64 0)] := by kernel_rfl
theorem tf60_row : rowOf Try.prog 60 = some true := by kernel_rfl
theorem tf60_sz : Try.prog.cellsOf 60 = 64 := by kernel_rfl
theorem tf60_szO : szO Try.prog 60 = some 64 := by kernel_rfl
theorem tf60_arr : arrOf Try.prog 60 = some (64, 3) := by kernel_rfl
theorem tf60_known : known Try.prog 60 = true := by kernel_rfl
theorem tf60_eq : eqTy Try.prog 60 = true := by kernel_rfl
theorem tf60_zero : zeroA Try.prog 60 = some (iarr 64 fun _ => 0) := by kernel_rfl
theorem tf60_u : Try.prog.underlying 60 = some (.array 64 3) := by kernel_rfl
theorem tf60_ce : Try.prog.cellsOf 3 = 1 := by kernel_rfl
theorem tf60_place (i : Nat) : placeOf Try.prog 60 i = some (i * 1, 1) := by simp only [placeOf, tf60_u, tf60_ce]
theorem tf60_slc : slcOf Try.prog 60 = none := by kernel_rfl
theorem tf5_row : rowOf Try.prog 5 = some false := by kernel_rfl
theorem tf5_sz : Try.prog.cellsOf 5 = 1 := by kernel_rfl
theorem tf5_szO : szO Try.prog 5 = some 1 := by kernel_rfl
theorem tf5_slc : slcOf Try.prog 5 = none := by kernel_rfl
theorem tf5_int : intKindOf Try.prog 5 = some .u8 := by kernel_rfl
theorem tf5_zero : zeroA Try.prog 5 = some [.v (.int .u8 0)] := by kernel_rfl
theorem tf45_row : rowOf Try.prog 45 = some false := by kernel_rfl
theorem tf45_sz : Try.prog.cellsOf 45 = 1 := by kernel_rfl
theorem tf45_szO : szO Try.prog 45 = some 1 := by kernel_rfl
theorem tf45_slc : slcOf Try.prog 45 = some 5 := by kernel_rfl
theorem tf45_arr : arrOf Try.prog 45 = none := by kernel_rfl
theorem tf45_isSlc : isSlc Try.prog 45 = true := by kernel_rfl
theorem tf45_zero : zeroA Try.prog 45 = some [.v (.slice none 0 0)] := by kernel_rfl
def vcT := (And.intro (And.intro (And.intro (And.intro (And.intro (And.intro @tf24_row @tf24_sz) (And.intro @tf24_szO @tf24_arr)) (And.intro (And.intro @tf24_known @tf24_eq) (And.intro @tf24_zero (And.intro @tf24_lits @tf24_litsN)))) (And.intro (And.intro (And.intro @tf24_place @tf24_slc) (And.intro @tf23_row (And.intro @tf23_sz @tf23_szO))) (And.intro (And.intro @tf23_arr @tf23_known) (And.intro @tf23_eq (And.intro @tf23_zero @tf23_lits))))) (And.intro (And.intro (And.intro (And.intro @tf23_litsN @tf23_place) (And.intro @tf23_slc (And.intro @tf22_row @tf22_sz))) (And.intro (And.intro @tf22_szO @tf22_slc) (And.intro @tf22_int (And.intro @tf22_zero @tf3_row)))) (And.intro (And.intro (And.intro @tf3_sz @tf3_szO) (And.intro @tf3_slc (And.intro @tf3_int @tf3_zero))) (And.intro (And.intro @tf4_row @tf4_sz) (And.intro @tf4_szO (And.intro @tf4_slc @tf4_bool)))))) (And.intro (And.intro (And.intro (And.intro (And.intro @tf4_zero @tf38_row) (And.intro @tf38_sz (And.intro @tf38_szO @tf38_arr))) (And.intro (And.intro @tf38_known @tf38_eq) (And.intro @tf38_zero (And.intro @tf38_lits @tf38_litsN)))) (And.intro (And.intro (And.intro @tf38_place @tf38_slc) (And.intro @tf39_row (And.intro @tf39_sz @tf39_szO))) (And.intro (And.intro @tf39_slc @tf39_int) (And.intro @tf39_zero (And.intro @tf60_row @tf60_sz))))) (And.intro (And.intro (And.intro (And.intro @tf60_szO @tf60_arr) (And.intro @tf60_known (And.intro @tf60_eq @tf60_zero))) (And.intro (And.intro @tf60_place @tf60_slc) (And.intro @tf5_row (And.intro @tf5_sz @tf5_szO)))) (And.intro (And.intro (And.intro @tf5_slc @tf5_int) (And.intro @tf5_zero (And.intro @tf45_row @tf45_sz))) (And.intro (And.intro @tf45_szO @tf45_slc) (And.intro @tf45_arr (And.intro @tf45_isSlc @tf45_zero)))))))
end Go.Proofs.Ytpikjhpbldocnaa
