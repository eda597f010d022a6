/-
  Package mont's statements: they answer true.
  Points in a row: two numbers each.
  Types of package pratt.
  Types of package group.
  The calls' laws once more, over groups; the rules in one bundle.
  What factors make, whether a proof is one: plain.
  Lists as they may be.
  The small groups: their proofs as rows, and what is known of them.
  A statement whose order is open: n operations that are quiet in a family of worlds; then operations up to m, that may come among them and leave the family be (new blocks); the rest waits for all and goes in its order, by laws of its own.
  The small groups.
  group: Member, Base, Params, Q.
  The calls' laws once more, over factors and proofs; the rules in one bundle.
  pratt: what factors make.
-/
import Derived.WalkKit
import Derived.StillTail
import Derived.Deep.MidRow
import Derived.DeepKeys
import Derived.Deep.LoopGhost
import Derived.Deep.Quiet
import Derived.Laws.AppendOwn
import Derived.Laws.MakeOwn
import Derived.Laws.Cover3
import Derived.Laws.IdiomCopy
import Derived.Laws.CopyRow
import Derived.Laws.BitsAllLaws
import Derived.Laws.Bits128
import Derived.Lib.BitFns
import Derived.Test.YtdmcknmjdlghgaaDoorProg
import Derived.Shelf.Bits.Mul64
import Derived.Shelf.Strconv.Itoa0
import Derived.Shelf.Spec.BitsCarry
import Derived.Tactics
import Derived.Tactics2
import Derived.Defers
import Derived.Laws.Pointers
import Derived.Laws.LoneSync
import Derived.RegionTactic
import Derived.RegionCalls
import Derived.ChangeAlike
import Derived.KernelRfl
import Derived.Laws.NewBlocks
import Derived.DeepKeys3
import Derived.MapKept
import Derived.Test.YtdmcknmjdlghgaaDoorX01
import Derived.Test.YtdmcknmjdlghgaaDoorX02
import Derived.Test.YtdmcknmjdlghgaaDoorX03
import Derived.Test.YtdmcknmjdlghgaaDoorX04
import Derived.Test.YtdmcknmjdlghgaaDoorX05
import Derived.Test.YtdmcknmjdlghgaaDoorX06
namespace Go.Proofs.YtdmcknmjdlghgaaDoor
open Go Go.Ab
set_option linter.unusedSimpArgs false
set_option linter.unusedVariables false
set_option linter.defProp false
set_option maxHeartbeats 20000000
set_option maxRecDepth 100000

theorem mul_add_mod (m a b c : Nat) : a * ((b + c) % m) % m = (a * b % m + a * c % m) % m := by
  have e : a * ((b + c) % m) % m = a * (b + c) % m := cg_mul rfl (cg_mod _ _)
  rw [e, Nat.mul_add, Nat.add_mod]
end Go.Proofs.YtdmcknmjdlghgaaDoor
namespace Go.Ab
open Go Go.RowKit
set_option linter.unusedSimpArgs false
set_option linter.unusedVariables false
theorem avren_sl {ρ : Nat → Nat} {j o n c : Nat} : AV.ren ρ (.s (.sl j o n c)) = .s (.sl (ρ j) o n c) := rfl
end Go.Ab
namespace Go.Proofs.YtdmcknmjdlghgaaDoor
open Go Go.Ab
set_option linter.unusedSimpArgs false
set_option linter.unusedVariables false
theorem tf50_row : rowOf Tryd.prog 50 = some false := by kernel_rfl
theorem tf50_sz : Tryd.prog.cellsOf 50 = 1 := by kernel_rfl
theorem tf50_szO : szO Tryd.prog 50 = some 1 := by kernel_rfl
theorem tf50_slc : slcOf Tryd.prog 50 = some 24 := by kernel_rfl
theorem tf50_arr : arrOf Tryd.prog 50 = none := by kernel_rfl
theorem tf50_isSlc : isSlc Tryd.prog 50 = true := by kernel_rfl
theorem tf50_zero : zeroA Tryd.prog 50 = some [.v (.slice none 0 0)] := by kernel_rfl
theorem tf78_row : rowOf Tryd.prog 78 = some true := by kernel_rfl
theorem tf78_sz : Tryd.prog.cellsOf 78 = 5 := by kernel_rfl
theorem tf78_szO : szO Tryd.prog 78 = some 5 := by kernel_rfl
theorem tf78_f0 : fieldOff Tryd.prog 78 0 = some (0, 24) := by kernel_rfl
theorem tf78_f1 : fieldOff Tryd.prog 78 1 = some (4, 3) := by kernel_rfl
theorem tf78_known : known Tryd.prog 78 = true := by kernel_rfl
theorem tf78_eq : eqTy Tryd.prog 78 = true := by kernel_rfl
theorem tf78_zero : zeroA Tryd.prog 78 = some [.v (.int .u64 0), .v (.int .u64 0), .v (.int .u64 0), .v (.int .u64 0), .v (.int .i64 0)] := by kernel_rfl
theorem tf78_p0 : placeOf Tryd.prog 78 0 = some (0, 4) := by kernel_rfl
theorem tf78_p1 : placeOf Tryd.prog 78 1 = some (4, 1) := by kernel_rfl
theorem tf78_slc : slcOf Tryd.prog 78 = none := by kernel_rfl
theorem tf41_row : rowOf Tryd.prog 41 = some false := by kernel_rfl
theorem tf41_sz : Tryd.prog.cellsOf 41 = 1 := by kernel_rfl
theorem tf41_szO : szO Tryd.prog 41 = some 1 := by kernel_rfl
theorem tf41_slc : slcOf Tryd.prog 41 = some 78 := by kernel_rfl
theorem tf41_arr : arrOf Tryd.prog 41 = none := by kernel_rfl
theorem tf41_isSlc : isSlc Tryd.prog 41 = true := by kernel_rfl
theorem tf41_zero : zeroA Tryd.prog 41 = some [.v (.slice none 0 0)] := by kernel_rfl
theorem tf43_row : rowOf Tryd.prog 43 = some true := by kernel_rfl
theorem tf43_sz : Tryd.prog.cellsOf 43 = 9 := by kernel_rfl
theorem tf43_szO : szO Tryd.prog 43 = some 9 := by kernel_rfl
theorem tf43_f0 : fieldOff Tryd.prog 43 0 = some (0, 24) := by kernel_rfl
theorem tf43_f1 : fieldOff Tryd.prog 43 1 = some (4, 24) := by kernel_rfl
theorem tf43_f2 : fieldOff Tryd.prog 43 2 = some (8, 41) := by kernel_rfl
theorem tf43_known : known Tryd.prog 43 = true := by kernel_rfl
theorem tf43_zero : zeroA Tryd.prog 43 = some [.v (.int .u64 0), .v (.int .u64 0), .v (.int .u64 0), .v (.int .u64 0), .v (.int .u64 0), .v (.int .u64 0), .v (.int .u64 0), .v (.int .u64 0), .v (.slice none 0 0)] := by kernel_rfl
theorem tf43_p0 : placeOf Tryd.prog 43 0 = some (0, 4) := by kernel_rfl
theorem tf43_p1 : placeOf Tryd.prog 43 1 = some (4, 4) := by kernel_rfl
theorem tf43_p2 : placeOf Tryd.prog 43 2 = some (8, 1) := by kernel_rfl
theorem tf43_slc : slcOf Tryd.prog 43 = none := by kernel_rfl
theorem tf28_row : rowOf Tryd.prog 28 = some false := by kernel_rfl
theorem tf28_sz : Tryd.prog.cellsOf 28 = 1 := by kernel_rfl
theorem tf28_szO : szO Tryd.prog 28 = some 1 := by kernel_rfl
theorem tf28_slc : slcOf Tryd.prog 28 = some 43 := by kernel_rfl
theorem tf28_arr : arrOf Tryd.prog 28 = none := by kernel_rfl
theorem tf28_isSlc : isSlc Tryd.prog 28 = true := by kernel_rfl
theorem tf28_zero : zeroA Tryd.prog 28 = some [.v (.slice none 0 0)] := by kernel_rfl
theorem tf131_row : rowOf Tryd.prog 131 = some false := by kernel_rfl
theorem tf131_sz : Tryd.prog.cellsOf 131 = 1 := by kernel_rfl
theorem tf131_szO : szO Tryd.prog 131 = some 1 := by kernel_rfl
theorem tf131_slc : slcOf Tryd.prog 131 = none := by kernel_rfl
end Go.Proofs.YtdmcknmjdlghgaaDoor
namespace Go.Proofs.YtdmcknmjdlghgaaDoor
open Go Go.Ab
set_option linter.unusedSimpArgs false
set_option linter.unusedVariables false
theorem tf27_row : rowOf Tryd.prog 27 = some true := by kernel_rfl
theorem tf27_sz : Tryd.prog.cellsOf 27 = 12 := by kernel_rfl
theorem tf27_szO : szO Tryd.prog 27 = some 12 := by kernel_rfl
theorem tf27_f0 : fieldOff Tryd.prog 27 0 = some (0, 24) := by kernel_rfl
theorem tf27_f1 : fieldOff Tryd.prog 27 1 = some (4, 24) := by kernel_rfl
theorem tf27_f2 : fieldOff Tryd.prog 27 2 = some (8, 24) := by kernel_rfl
theorem tf27_known : known Tryd.prog 27 = true := by kernel_rfl
theorem tf27_eq : eqTy Tryd.prog 27 = true := by kernel_rfl
theorem tf27_zero : zeroA Tryd.prog 27 = some [.v (.int .u64 0), .v (.int .u64 0), .v (.int .u64 0), .v (.int .u64 0), .v (.int .u64 0), .v (.int .u64 0), .v (.int .u64 0), .v (.int .u64 0), .v (.int .u64 0), .v (.int .u64 0), .v (.int .u64 0), .v (.int .u64 0)] := by kernel_rfl
theorem tf27_p0 : placeOf Tryd.prog 27 0 = some (0, 4) := by kernel_rfl
theorem tf27_p1 : placeOf Tryd.prog 27 1 = some (4, 4) := by kernel_rfl
theorem tf27_p2 : placeOf Tryd.prog 27 2 = some (8, 4) := by kernel_rfl
theorem tf27_slc : slcOf Tryd.prog 27 = none := by kernel_rfl
theorem tf84_row : rowOf Tryd.prog 84 = some true := by kernel_rfl
theorem tf84_sz : Tryd.prog.cellsOf 84 = 14 := by kernel_rfl
theorem tf84_szO : szO Tryd.prog 84 = some 14 := by kernel_rfl
theorem tf84_f0 : fieldOff Tryd.prog 84 0 = some (0, 27) := by kernel_rfl
theorem tf84_f1 : fieldOff Tryd.prog 84 1 = some (12, 46) := by kernel_rfl
theorem tf84_f2 : fieldOff Tryd.prog 84 2 = some (13, 46) := by kernel_rfl
theorem tf84_known : known Tryd.prog 84 = true := by kernel_rfl
theorem tf84_zero : zeroA Tryd.prog 84 = some [.v (.int .u64 0), .v (.int .u64 0), .v (.int .u64 0), .v (.int .u64 0), .v (.int .u64 0), .v (.int .u64 0), .v (.int .u64 0), .v (.int .u64 0), .v (.int .u64 0), .v (.int .u64 0), .v (.int .u64 0), .v (.int .u64 0), .v (.pointer none), .v (.pointer none)] := by kernel_rfl
theorem tf84_p0 : placeOf Tryd.prog 84 0 = some (0, 12) := by kernel_rfl
theorem tf84_p1 : placeOf Tryd.prog 84 1 = some (12, 1) := by kernel_rfl
theorem tf84_p2 : placeOf Tryd.prog 84 2 = some (13, 1) := by kernel_rfl
theorem tf84_slc : slcOf Tryd.prog 84 = none := by kernel_rfl
theorem tf31_row : rowOf Tryd.prog 31 = some false := by kernel_rfl
theorem tf31_sz : Tryd.prog.cellsOf 31 = 1 := by kernel_rfl
theorem tf31_szO : szO Tryd.prog 31 = some 1 := by kernel_rfl
theorem tf31_slc : slcOf Tryd.prog 31 = none := by kernel_rfl
theorem tf31_ptr : isPtr Tryd.prog 31 = true := by kernel_rfl
theorem tf31_zero : zeroA Tryd.prog 31 = some [.v (.pointer none)] := by kernel_rfl
theorem tf36_row : rowOf Tryd.prog 36 = some false := by kernel_rfl
theorem tf36_sz : Tryd.prog.cellsOf 36 = 1 := by kernel_rfl
theorem tf36_szO : szO Tryd.prog 36 = some 1 := by kernel_rfl
theorem tf36_slc : slcOf Tryd.prog 36 = none := by kernel_rfl
end Go.Proofs.YtdmcknmjdlghgaaDoor
namespace Go.Proofs.YtdmcknmjdlghgaaDoor
open Go Go.Ab
set_option linter.unusedSimpArgs false
set_option linter.unusedVariables false
set_option linter.defProp false
def vcXGb := (And.intro (And.intro (And.intro (And.intro (And.intro (And.intro (And.intro @modc_length (And.intro @modc_take @modc_sq)) (And.intro (And.intro @modc_i @modS_length) (And.intro @dgs_length @dgs_one))) (And.intro (And.intro (And.intro @dgs_get @nats_length) (And.intro @fac_length @fac_fst)) (And.intro (And.intro @fac_snd @fac_one) (And.intro @prf_length @prf_fst)))) (And.intro (And.intro (And.intro (And.intro @prf_snd @prf_thd) (And.intro @prf_one @fz_prf)) (And.intro (And.intro @avren_sl @prms_length) (And.intro @prms_one @prms_fst))) (And.intro (And.intro (And.intro @prms_snd @prms_thd) (And.intro @prms_low @prms_lowq)) (And.intro (And.intro @fz_prms @ren_prms) (And.intro @avren_prms @grpc_length))))) (And.intro (And.intro (And.intro (And.intro (And.intro @fz_grpc @ren_grpc) (And.intro @qm_call @qm_move)) (And.intro (And.intro @qm_assign @qm_pick) (And.intro @qm_build @qm_load))) (And.intro (And.intro (And.intro @qm_nilCheck @qm_binOp) (And.intro @qm_unOp @qm_convert)) (And.intro (And.intro @qm_fieldAddr @qm_field) (And.intro @qm_indexAddr @qm_index)))) (And.intro (And.intro (And.intro (And.intro @qm_extract @qm_makeFunc) (And.intro @xcalledM_first @xcalledM_cap)) (And.intro (And.intro @maskOK_p @maskOK_v) (And.intro @xcallHM_value @xcallHM_len))) (And.intro (And.intro (And.intro @xcalledM_some @xTrM_nil) (And.intro @xTrM_false @xTrM_cons)) (And.intro (And.intro @xAtM_assign @xAtM_move) (And.intro @xAtM_extract @xAtM_alloc)))))) (And.intro (And.intro (And.intro (And.intro (And.intro (And.intro @xAtM_store @famL_nil) (And.intro @famL_cons @tf108_row)) (And.intro (And.intro @tf108_sz @tf108_szO) (And.intro @tf108_f0 @tf108_f1))) (And.intro (And.intro (And.intro @tf108_f2 @tf108_f3) (And.intro @tf108_known @tf108_zero)) (And.intro (And.intro @tf108_p0 @tf108_p1) (And.intro @tf108_p2 @tf108_p3)))) (And.intro (And.intro (And.intro (And.intro @tf108_slc @tf142_row) (And.intro @tf142_sz @tf142_szO)) (And.intro (And.intro @tf142_arr @tf142_known) (And.intro @tf142_eq @tf142_zero))) (And.intro (And.intro (And.intro @tf142_lits @tf142_place) (And.intro @tf142_slc @tf46_row)) (And.intro (And.intro @tf46_sz @tf46_szO) (And.intro @tf46_slc @tf46_ptr))))) (And.intro (And.intro (And.intro (And.intro (And.intro @tf46_zero @tf144_row) (And.intro @tf144_sz @tf144_szO)) (And.intro (And.intro @tf144_slc @tf144_ptr) (And.intro @tf144_zero @tf145_row))) (And.intro (And.intro (And.intro @tf145_sz @tf145_szO) (And.intro @tf145_slc @tf145_arr)) (And.intro (And.intro @tf145_isSlc @tf145_zero) (And.intro @tf98_row @tf98_sz)))) (And.intro (And.intro (And.intro (And.intro @tf98_szO @tf98_slc) (And.intro @tf98_int @tf98_zero)) (And.intro (And.intro @tf21_row @tf21_sz) (And.intro @tf21_szO @tf21_slc))) (And.intro (And.intro (And.intro @tf21_int @tf21_zero) (And.intro @ctxN_P @ctxN_TM)) (And.intro (And.intro @bnd_none @bnd_int) (And.intro @xslB_some @xslice_p))))))) (And.intro (And.intro (And.intro (And.intro (And.intro (And.intro @xslice_sl (And.intro @xslice_v @xarrAt_sl)) (And.intro (And.intro @xarrAt_v @tf50_row) (And.intro @tf50_sz @tf50_szO))) (And.intro (And.intro (And.intro @tf50_slc @tf50_arr) (And.intro @tf50_isSlc @tf50_zero)) (And.intro (And.intro @tf78_row @tf78_sz) (And.intro @tf78_szO @tf78_f0)))) (And.intro (And.intro (And.intro (And.intro @tf78_f1 @tf78_known) (And.intro @tf78_eq @tf78_zero)) (And.intro (And.intro @tf78_p0 @tf78_p1) (And.intro @tf78_slc @tf41_row))) (And.intro (And.intro (And.intro @tf41_sz @tf41_szO) (And.intro @tf41_slc @tf41_arr)) (And.intro (And.intro @tf41_isSlc @tf41_zero) (And.intro @tf43_row @tf43_sz))))) (And.intro (And.intro (And.intro (And.intro (And.intro @tf43_szO @tf43_f0) (And.intro @tf43_f1 @tf43_f2)) (And.intro (And.intro @tf43_known @tf43_zero) (And.intro @tf43_p0 @tf43_p1))) (And.intro (And.intro (And.intro @tf43_p2 @tf43_slc) (And.intro @tf28_row @tf28_sz)) (And.intro (And.intro @tf28_szO @tf28_slc) (And.intro @tf28_arr @tf28_isSlc)))) (And.intro (And.intro (And.intro (And.intro @tf28_zero @tf131_row) (And.intro @tf131_sz @tf131_szO)) (And.intro (And.intro @tf131_slc @tf27_row) (And.intro @tf27_sz @tf27_szO))) (And.intro (And.intro (And.intro @tf27_f0 @tf27_f1) (And.intro @tf27_f2 @tf27_known)) (And.intro (And.intro @tf27_eq @tf27_zero) (And.intro @tf27_p0 @tf27_p1)))))) (And.intro (And.intro (And.intro (And.intro (And.intro (And.intro @tf27_p2 @tf27_slc) (And.intro @tf84_row @tf84_sz)) (And.intro (And.intro @tf84_szO @tf84_f0) (And.intro @tf84_f1 @tf84_f2))) (And.intro (And.intro (And.intro @tf84_known @tf84_zero) (And.intro @tf84_p0 @tf84_p1)) (And.intro (And.intro @tf84_p2 @tf84_slc) (And.intro @tf31_row @tf31_sz)))) (And.intro (And.intro (And.intro (And.intro @tf31_szO @tf31_slc) (And.intro @tf31_ptr @tf31_zero)) (And.intro (And.intro @tf36_row @tf36_sz) (And.intro @tf36_szO @tf36_slc))) (And.intro (And.intro (And.intro @ctxE_P @ctxE_TM) (And.intro @modEvo_TM @after_P)) (And.intro (And.intro @after_TM @fz_v) (And.intro @fz_p @fz_sl))))) (And.intro (And.intro (And.intro (And.intro (And.intro @fz_agg @fz_tup) (And.intro @fz_undef @avfz_v)) (And.intro (And.intro @avfz_p @avfz_sl) (And.intro @avfz_agg @svfz_v))) (And.intro (And.intro (And.intro @svfz_p @svfz_sl) (And.intro @fzP_none @fzP_some)) (And.intro (And.intro @fzS_none @fzS_some) (And.intro @fz_nat4 @fz_arr)))) (And.intro (And.intro (And.intro (And.intro @fz_iarr @fzB_some) (And.intro @fzH_nil @fzH_cons)) (And.intro (And.intro @posL_nil @posL_cons) (And.intro @ren_v @ren_p))) (And.intro (And.intro (And.intro @ren_sl @ren_undef) (And.intro @ren_nat4 @ren_tupE)) (And.intro (And.intro @ren_tup @avren_v) (And.intro @avren_p @avren_nat4))))))))
def vcQGb := (And.intro (And.intro (And.intro (And.intro @okT_nil (And.intro @okT_cons @okS_nil)) (And.intro (And.intro @okS_cons @okA_nil) (And.intro @okA_cons @and_self))) (And.intro (And.intro @true_and (And.intro @and_true @okv_p)) (And.intro (And.intro @okv_sl @oks_s) (And.intro @oks_agg @oks_tup)))) (And.intro (And.intro (And.intro @oka_s (And.intro @oka_agg @okv_v)) (And.intro (And.intro @nat4_okk @nat8_okk) (And.intro @arr_okk @iarr_okk))) (And.intro (And.intro (And.intro @modc_okk @modS_okk) (And.intro @dgs_okk @nats_okk)) (And.intro (And.intro @fac_okk @prf_okk) (And.intro @prms_okk @grpc_okk)))))
def vcOGb := (And.intro (And.intro (And.intro (And.intro @okv_p @okv_sl) (And.intro @oks_s (And.intro @oks_agg @oks_tup))) (And.intro (And.intro @oka_s @oka_agg) (And.intro @okv_v (And.intro @nat4_okk @nat8_okk)))) (And.intro (And.intro (And.intro @arr_okk @iarr_okk) (And.intro @modc_okk (And.intro @modS_okk @dgs_okk))) (And.intro (And.intro @nats_okk @fac_okk) (And.intro @prf_okk (And.intro @prms_okk @grpc_okk)))))
/-- A bound, or the like. -/
theorem bd2 {p : Prop} (h : p := by first | (with_reducible first | assumption | exact OddM.mod_lt (by assumption) | exact OddM.mo_lt (by assumption) | exact OddM.mo_lt' (by assumption) | exact OddM.img_lt (by assumption) | exact OddM.lt (by assumption) | exact OddM.pos (by assumption) | exact lt512 (by assumption) | exact lt512_add (by first | assumption | exact OddM.mod_lt (by assumption)) (by first | assumption | exact OddM.lt (by assumption)) | exact lt512_mul (by assumption) (by assumption)) | decide | omega) : p := h
/-- What simp asks for on its way. -/
theorem dz2 {p : Prop} (h : p := by first | (simp only [nat4_length, nat8_length, arr_length, iarr_length, modc_length, modS_length, dgs_length, nats_length, fac_length, prf_length, prms_length, grpc_length, List.length_cons, List.length_nil, Nat.reduceAdd]; done) | omega) : p := h
section
variable {Γ : Ctx} {P : Program} {V : Evo} {H : Heap} {M : List Nat} {f : FuncId} {args : List TV} {r : TV} {pre : Nat → World → Prop} {K : TV → Heap → Prop} {KV : TV → Prop}
theorem cF_pure2 (h : PureC P f args r) (hK : K r H) (hP : Γ.P = P := by with_unfolding_all rfl) (hc : callable P f = true := by kernel_rfl) : xcallF Γ H f args K := yF_pure h hP hc hK
theorem cV_pure2 (h : PureC P f args r) (hK : KV r) (hP : Γ.P = P := by with_unfolding_all rfl) (hc : callable P f = true := by kernel_rfl) : xcallV Γ H f args KV := yV_pure h hP hc hK
theorem cM_pure2 (h : PureC P f args r) (hK : KV r) (hP : Γ.P = P := by with_unfolding_all rfl) (hc : callable P f = true := by kernel_rfl) : xcallM Γ H M f args KV := yM_pure h hP hc hK
theorem cF_ev2 (h : EvC V P f args pre r) (hK : K r H) (hP : Γ.P = P := by with_unfolding_all rfl) (hV : Γ.ev = V := by with_unfolding_all rfl) (hc : callable P f = true := by kernel_rfl) (ha : ∀ x ∈ args, x.ok 0 := by simp only [vcQGb])
    (hp : Kn Γ pre := by with_reducible first | assumption | exact Kn.and (by assumption) (by assumption) | (repeat' first | assumption | refine Kn.and ?_ ?_)) : xcallF Γ H f args K := yF_ev h hP hV hc ha hp hK
theorem cV_ev2 (h : EvC V P f args pre r) (hK : KV r) (hP : Γ.P = P := by with_unfolding_all rfl) (hV : Γ.ev = V := by with_unfolding_all rfl) (hc : callable P f = true := by kernel_rfl) (ha : ∀ x ∈ args, x.ok 0 := by simp only [vcQGb])
    (hp : Kn Γ pre := by with_reducible first | assumption | exact Kn.and (by assumption) (by assumption) | (repeat' first | assumption | refine Kn.and ?_ ?_)) : xcallV Γ H f args KV := yV_ev h hP hV hc ha hp hK
theorem cM_ev2 (h : EvC V P f args pre r) (hK : KV r) (hP : Γ.P = P := by with_unfolding_all rfl) (hV : Γ.ev = V := by with_unfolding_all rfl) (hc : callable P f = true := by kernel_rfl) (ha : ∀ x ∈ args, x.ok 0 := by simp only [vcQGb])
    (hp : Kn Γ pre := by with_reducible first | assumption | exact Kn.and (by assumption) (by assumption) | (repeat' first | assumption | refine Kn.and ?_ ?_)) : xcallM Γ H M f args KV := yM_ev h hP hV hc ha hp hK
theorem cF_new2 {R : TV → Heap → Prop} (h : NewC P f args R) (hK : ∀ v H', R v H' → K (v.ren (· + H.length)) (H ++ H')) (hP : Γ.P = P := by with_unfolding_all rfl) (hc : callable P f = true := by kernel_rfl) (hev : ∀ t, ¬ Γ.ev.TM t := by with_unfolding_all exact fun _ h => h) : xcallF Γ H f args K := yF_new h hP hc hev hK
end
end Go.Proofs.YtdmcknmjdlghgaaDoor
namespace Go.Ab
open Go Go.RowKit
set_option linter.unusedSimpArgs false
set_option linter.unusedVariables false

/-- Is there one below n? -/
def anyB (n : Nat) (f : Nat → Bool) : Bool := (List.range n).any f
theorem anyB_iff {n : Nat} {f : Nat → Bool} : anyB n f = true ↔ ∃ i, i < n ∧ f i = true := by
  unfold anyB
  rw [List.any_eq_true]
  simp only [List.mem_range]
theorem anyB_false {n : Nat} {f : Nat → Bool} : anyB n f = false ↔ ∀ i, i < n → f i = false := by
  rw [← Bool.not_eq_true, anyB_iff]
  constructor
  · intro h i hi
    cases hf : f i with
    | false => rfl
    | true => exact absurd ⟨i, hi, hf⟩ h
  · rintro h ⟨i, hi, hf⟩
    rw [h i hi] at hf
    cases hf
theorem anyB_zero {f : Nat → Bool} : anyB 0 f = false := rfl
theorem anyB_succ {n : Nat} {f : Nat → Bool} : anyB (n + 1) f = (anyB n f || f n) := by
  unfold anyB
  rw [List.range_succ, List.any_append]
  simp
/-- What the first n factors make. -/
def prT (P : Nat → Nat) (E : Nat → Int) : Nat → Nat
  | 0 => 1
  | i + 1 => prT P E i * P i ^ (E i).toNat
def eBad (E : Nat → Int) (i : Nat) : Bool := decide (E i < 1) || decide (255 < E i)
theorem eBad_false {E : Nat → Int} {i : Nat} : eBad E i = false ↔ 1 ≤ E i ∧ E i ≤ 255 := by
  unfold eBad
  rw [Bool.or_eq_false_iff, decide_eq_false_iff_not, decide_eq_false_iff_not]
  omega
theorem eBad_true {E : Nat → Int} {i : Nat} : eBad E i = true ↔ E i < 1 ∨ 255 < E i := by
  unfold eBad
  rw [Bool.or_eq_true, decide_eq_true_iff, decide_eq_true_iff]
/-- D1: what factors make, or why nothing. -/
def prS (n : Nat) (P : Nat → Nat) (E : Nat → Int) : Nat × Int :=
  if 40 < n then (0, 2) else if anyB n (eBad E) then (0, 1) else if anyB n (fun i => P i == 0) then (0, 0) else if prT P E n < 2 ^ 256 then (prT P E n, 0) else (0, 10)
section
variable {n : Nat} {P : Nat → Nat} {E : Nat → Int}
theorem prS_long (h : 40 < n) : prS n P E = (0, 2) := by unfold prS; rw [if_pos h]
theorem prS_bad (h : ¬ 40 < n) {i : Nat} (hi : i < n) (hb : eBad E i = true) : prS n P E = (0, 1) := by
  unfold prS
  rw [if_neg h, if_pos (anyB_iff.2 ⟨i, hi, hb⟩)]
theorem prS_zero (h : ¬ 40 < n) (hb : ∀ i, i < n → eBad E i = false) (hz : anyB n (fun i => P i == 0) = true) : prS n P E = (0, 0) := by
  unfold prS
  rw [if_neg h, if_neg (by rw [anyB_false.2 hb]; decide), if_pos hz]
theorem prS_fits (h : ¬ 40 < n) (hb : ∀ i, i < n → eBad E i = false) (hz : anyB n (fun i => P i == 0) = false) (hT : prT P E n < 2 ^ 256) : prS n P E = (prT P E n, 0) := by
  unfold prS
  rw [if_neg h, if_neg (by rw [anyB_false.2 hb]; decide), if_neg (by rw [hz]; decide), if_pos hT]
theorem prS_over (h : ¬ 40 < n) (hb : ∀ i, i < n → eBad E i = false) (hz : anyB n (fun i => P i == 0) = false) (hT : ¬ prT P E n < 2 ^ 256) : prS n P E = (0, 10) := by
  unfold prS
  rw [if_neg h, if_neg (by rw [anyB_false.2 hb]; decide), if_neg (by rw [hz]; decide), if_neg hT]
theorem prT_le (hz : ∀ i, i < n → 0 < P i) : ∀ {m : Nat}, m ≤ n → prT P E m ≤ prT P E n := by
  induction n with
  | zero => intro m hm; rw [Nat.le_zero.1 hm]; exact Nat.le_refl _
  | succ n ih =>
    intro m hm
    by_cases h : m = n + 1
    · subst h; exact Nat.le_refl _
    · refine Nat.le_trans (ih (fun i hi => hz i (by omega)) (by omega)) ?_
      exact Nat.le_mul_of_pos_right _ (Nat.pow_pos (hz n (by omega)))
theorem prT_part (hz : ∀ i, i < n → 0 < P i) {i k : Nat} (hi : i < n) (hk : k ≤ (E i).toNat) : prT P E i * P i ^ k ≤ prT P E n := by
  refine Nat.le_trans ?_ (prT_le (m := i + 1) hz (by omega))
  exact Nat.mul_le_mul_left _ (Nat.pow_le_pow_right (hz i hi) hk)
end
theorem zero_pos {n : Nat} {P : Nat → Nat} (hz : anyB n (fun i => P i == 0) = false) : ∀ i, i < n → 0 < P i := fun i hi => by
  have h := anyB_false.1 hz i hi
  have : P i ≠ 0 := by simpa using h
  omega
def stB (N G : Nat) (P : Nat → Nat) (i : Nat) : Bool := decide (P i < 2) || decide (G ^ ((N - 1) / P i) % N = 1)
/-- D2: is it a step? -/
def stS (N G n : Nat) (P : Nat → Nat) (E : Nat → Int) : Int :=
  if (prS n P E).2 ≠ 0 then (prS n P E).2
  else if ¬ (N % 2 = 1 ∧ 3 ≤ N) then 20
  else if (prS n P E).1 ≠ N - 1 ∨ G ^ (N - 1) % N ≠ 1 then 20
  else if anyB n (stB N G P) then 20 else 0
section
variable {N G n : Nat} {P : Nat → Nat} {E : Nat → Int} {a : Nat}
theorem stS_e {e : Int} (h : prS n P E = (a, e)) (he : e ≠ 0) : stS N G n P E = e := by unfold stS; rw [h, if_pos he]
theorem stS_m (h : prS n P E = (a, 0)) (hG : ¬ (N % 2 = 1 ∧ 3 ≤ N)) : stS N G n P E = 20 := by
  unfold stS
  rw [h, if_neg (fun h => h rfl), if_pos hG]
theorem stS_p (h : prS n P E = (a, 0)) (hG : N % 2 = 1 ∧ 3 ≤ N) (hp : a ≠ N - 1 ∨ G ^ (N - 1) % N ≠ 1) : stS N G n P E = 20 := by
  unfold stS
  rw [h, if_neg (fun h => h rfl), if_neg (fun h => h hG), if_pos hp]
theorem stS_b (h : prS n P E = (a, 0)) (hG : N % 2 = 1 ∧ 3 ≤ N) (ha : a = N - 1) (hp : G ^ (N - 1) % N = 1) {i : Nat} (hi : i < n) (hb : stB N G P i = true) : stS N G n P E = 20 := by
  unfold stS
  rw [h, if_neg (fun h => h rfl), if_neg (fun h => h hG), if_neg (fun h => h.elim (fun h => h ha) (fun h => h hp)), if_pos (anyB_iff.2 ⟨i, hi, hb⟩)]
theorem stS_o (h : prS n P E = (a, 0)) (hG : N % 2 = 1 ∧ 3 ≤ N) (ha : a = N - 1) (hp : G ^ (N - 1) % N = 1) (hb : ∀ i, i < n → stB N G P i = false) : stS N G n P E = 0 := by
  unfold stS
  rw [h, if_neg (fun h => h rfl), if_neg (fun h => h hG), if_neg (fun h => h.elim (fun h => h ha) (fun h => h hp)), if_neg (by rw [anyB_false.2 hb]; decide)]
theorem stB_lt (h : P n < 2) : stB N G P n = true := by unfold stB; rw [decide_eq_true h, Bool.true_or]
theorem stB_eq (h : ¬ P n < 2) : stB N G P n = decide (G ^ ((N - 1) / P n) % N = 1) := by unfold stB; rw [decide_eq_false h, Bool.false_or]
theorem prS_lt (hP : ∀ i, P i < 2 ^ 256) : (prS n P E).1 < 2 ^ 256 := by
  unfold prS
  split
  · show 0 < 2 ^ 256; decide
  split
  · show 0 < 2 ^ 256; decide
  split
  · show 0 < 2 ^ 256; decide
  split
  · assumption
  · show 0 < 2 ^ 256; decide
end
/-- D3: 2, and the numbers of the first m. -/
def knS (l : Nat → Pf) (m : Nat) (n : Nat) : Bool := n == 2 || anyB m fun i => (l i).N == n
/-- What is to be said of the proof i. -/
def ckA (l : Nat → Pf) (i : Nat) : Int := if anyB (l i).n (fun k => !knS l i ((l i).P k)) then 20 else stS (l i).N (l i).G (l i).n (l i).P (l i).E
/-- Of the first m. -/
def ckU (l : Nat → Pf) : Nat → Int
  | 0 => 0
  | m + 1 => if ckU l m ≠ 0 then ckU l m else ckA l m
def ckS (l : Nat → Pf) (m : Nat) : Int := if 40 < m then 2 else ckU l m
def pvS (l : Nat → Pf) (m : Nat) (n : Nat) : Int := if ckS l m ≠ 0 then ckS l m else if knS l m n then 0 else 20
theorem knS_zero {l : Nat → Pf} {n : Nat} : knS l 0 n = (n == 2) := by unfold knS; rw [anyB_zero, Bool.or_false]
theorem knS_succ {l : Nat → Pf} {m n : Nat} : knS l (m + 1) n = (knS l m n || n == (l m).N) := by
  unfold knS
  rw [anyB_succ, Bool.or_assoc]
  congr 2
  rw [Bool.beq_comm]
theorem ckU_stop {l : Nat → Pf} {i m : Nat} (hi : i < m) (h0 : ckU l i = 0) (h : ckA l i ≠ 0) : ckU l m = ckA l i := by
  induction m with
  | zero => omega
  | succ m ih =>
    by_cases hm : i = m
    · subst hm
      show (if ckU l i ≠ 0 then ckU l i else ckA l i) = _
      rw [if_neg (by omega)]
    · have h1 := ih (by omega)
      show (if ckU l m ≠ 0 then ckU l m else ckA l m) = _
      rw [if_pos (by rw [h1]; exact h), h1]
theorem ckU_go {l : Nat → Pf} {i : Nat} (h0 : ckU l i = 0) (h : ckA l i = 0) : ckU l (i + 1) = 0 := by
  show (if ckU l i ≠ 0 then ckU l i else ckA l i) = _
  rw [if_neg (by omega), h]
end Go.Ab
namespace Go.Ab
set_option linter.unusedSimpArgs false
set_option linter.unusedVariables false
/-- A list as it may be. -/
structure PfOk (l : Nat → Pf) : Prop where
  N : ∀ i, (l i).N < 2 ^ 256
  G : ∀ i, (l i).G < 2 ^ 256
  P : ∀ i k, (l i).P k < 2 ^ 256
  E : ∀ i k, -9223372036854775808 ≤ (l i).E k ∧ (l i).E k < 9223372036854775808
  n : ∀ i, (l i).n < 9223372036854775808

theorem ckS_long {l : Nat → Pf} {m : Nat} (h : 40 < m) : ckS l m = 2 := by unfold ckS; rw [if_pos h]
theorem ckS_short {l : Nat → Pf} {m : Nat} (h : ¬ 40 < m) : ckS l m = ckU l m := by unfold ckS; rw [if_neg h]
theorem ckA_un {l : Nat → Pf} {i k : Nat} (hk : k < (l i).n) (h : knS l i ((l i).P k) = false) : ckA l i = 20 := by
  unfold ckA
  rw [if_pos (anyB_iff.2 ⟨k, hk, by rw [h]; rfl⟩)]
theorem ckA_st {l : Nat → Pf} {i : Nat} (h : ∀ k, k < (l i).n → knS l i ((l i).P k) = true) : ckA l i = stS (l i).N (l i).G (l i).n (l i).P (l i).E := by
  unfold ckA
  rw [if_neg (by rw [anyB_false.2 fun k hk => by rw [h k hk]; rfl]; decide)]
end Go.Ab
namespace Go.Ab
open Go Go.RowKit
set_option linter.unusedSimpArgs false
set_option linter.unusedVariables false
set_option maxRecDepth 100000

/-- A proof, as it is written: its number, its base, its factors. -/
abbrev Sp := Nat × Nat × List (Nat × Int)
def pfOf (s : Sp) (y : Option Addr) : Pf := ⟨s.1, s.2.1, y, s.2.2.length, s.2.2.length, fun k => (s.2.2.getD k (2, 1)).1, fun k => (s.2.2.getD k (2, 1)).2⟩
def lOf (S : List Sp) (β : Nat → Nat) (i : Nat) : Pf := pfOf (S.getD i (2, 2, [])) (some ⟨β (i + 1), 0, none⟩)
def facl : List (Nat × Int) → List SV
  | [] => []
  | f :: fs => fac f.1 f.2 ++ facl fs
def rowF : Nat → List Sp → List SV
  | _, [] => []
  | k, s :: S => prf s.1 s.2.1 (.sl k 0 s.2.2.length s.2.2.length) ++ rowF (k + 1) S
/-- The blocks: the row of proofs, each one's row of factors. -/
def heapS (tp tf : TypeId) (S : List Sp) : Heap := ⟨tp, rowF 1 S⟩ :: S.map fun s => ⟨tf, facl s.2.2⟩
theorem facl_get (d : Nat × Int) : ∀ (fs : List (Nat × Int)) (q r : Nat), q < fs.length → r < 5 → (facl fs)[q * 5 + r]? = (fac (fs.getD q d).1 (fs.getD q d).2)[r]?
  | [], q, r, h, _ => absurd h (Nat.not_lt_zero q)
  | f :: fs, 0, r, _, hr => by
    show (fac f.1 f.2 ++ facl fs)[0 * 5 + r]? = _
    rw [Nat.zero_mul, Nat.zero_add, List.getElem?_append_left (by show r < 5; exact hr)]
    rfl
  | f :: fs, q + 1, r, h, hr => by
    show (fac f.1 f.2 ++ facl fs)[(q + 1) * 5 + r]? = _
    rw [List.getElem?_append_right (by show 5 ≤ (q + 1) * 5 + r; omega), show (q + 1) * 5 + r - (fac f.1 f.2).length = q * 5 + r by show (q + 1) * 5 + r - 5 = q * 5 + r; omega, facl_get d fs q r (Nat.lt_of_succ_lt_succ h) hr]
    rfl
theorem rowF_get (d : Sp) : ∀ (S : List Sp) (k q r : Nat), q < S.length → r < 9 → (rowF k S)[q * 9 + r]? = (prf (S.getD q d).1 (S.getD q d).2.1 (.sl (k + q) 0 (S.getD q d).2.2.length (S.getD q d).2.2.length))[r]?
  | [], k, q, r, h, _ => absurd h (Nat.not_lt_zero q)
  | f :: fs, k, 0, r, _, hr => by
    show (prf f.1 f.2.1 (.sl k 0 f.2.2.length f.2.2.length) ++ rowF (k + 1) fs)[0 * 9 + r]? = _
    rw [Nat.zero_mul, Nat.zero_add, List.getElem?_append_left (by show r < 9; exact hr)]
    rfl
  | f :: fs, k, q + 1, r, h, hr => by
    show (prf f.1 f.2.1 (.sl k 0 f.2.2.length f.2.2.length) ++ rowF (k + 1) fs)[(q + 1) * 9 + r]? = _
    rw [List.getElem?_append_right (by show 9 ≤ (q + 1) * 9 + r; omega), show (q + 1) * 9 + r - (prf f.1 f.2.1 (.sl k 0 f.2.2.length f.2.2.length)).length = q * 9 + r by show (q + 1) * 9 + r - 9 = q * 9 + r; omega, rowF_get d fs (k + 1) q r (Nat.lt_of_succ_lt_succ h) hr, show k + 1 + q = k + (q + 1) by omega]
    rfl
theorem fac_conc {p : Nat} {e : Int} {r : Nat} {β : Nat → Nat} (hr : r < 5) : ((fac p e)[r]?).map (SV.conc β) = some (facG (fun _ => p) (fun _ => e) r) := by
  rcases r with _ | _ | _ | _ | _ | r
  all_goals first | rfl | omega
theorem prf_conc {N G i n : Nat} {r : Nat} {β : Nat → Nat} (hr : r < 9) : ((prf N G (.sl i 0 n n))[r]?).map (SV.conc β) = some (prfG (fun _ => ⟨N, G, some ⟨β i, 0, none⟩, n, n, fun _ => 0, fun _ => 0⟩) r) := by
  rcases r with _ | _ | _ | _ | _ | _ | _ | _ | _ | r
  all_goals first | rfl | omega
theorem facG_at {P : Nat → Nat} {E : Nat → Int} {q r : Nat} (hr : r < 5) : facG P E (q * 5 + r) = facG (fun _ => P q) (fun _ => E q) r := by
  unfold facG
  rw [show (q * 5 + r) % 5 = r by omega, show (q * 5 + r) / 5 = q by omega, Nat.mod_eq_of_lt hr]
theorem prfG_at {l : Nat → Pf} {q r : Nat} (hr : r < 9) : prfG l (q * 9 + r) = prfG (fun _ => l q) r := by
  unfold prfG
  rw [show (q * 9 + r) % 9 = r by omega, show (q * 9 + r) / 9 = q by omega, Nat.mod_eq_of_lt hr]
/-- Whether a proof may stand in a slice. -/
def spOk (s : Sp) : Bool := decide (s.1 < 2 ^ 256) && decide (s.2.1 < 2 ^ 256) && decide (s.2.2.length < 9223372036854775808) && s.2.2.all fun f => decide (f.1 < 2 ^ 256) && decide (-9223372036854775808 ≤ f.2) && decide (f.2 < 9223372036854775808)
theorem getD_all {α : Type} {p : α → Bool} {l : List α} {d : α} (h : l.all p = true) (hd : p d = true) (i : Nat) : p (l.getD i d) = true := by
  rw [List.getD_eq_getElem?_getD]
  cases hi : l[i]? with
  | none => exact hd
  | some x => exact List.all_eq_true.1 h x (List.mem_of_getElem? hi)
theorem pfOk_of {S : List Sp} (h : S.all spOk = true) (β : Nat → Nat) : PfOk (lOf S β) := by
  have h1 : ∀ i, spOk (S.getD i (2, 2, [])) = true := fun i => getD_all h (by decide) i
  have h2 := fun i => Bool.and_eq_true_iff.1 (h1 i)
  have h3 := fun i => Bool.and_eq_true_iff.1 (h2 i).1
  have h4 := fun i => Bool.and_eq_true_iff.1 (h3 i).1
  have h5 : ∀ i k, ((decide (((S.getD i (2, 2, [])).2.2.getD k (2, 1)).1 < 2 ^ 256) && decide (-9223372036854775808 ≤ ((S.getD i (2, 2, [])).2.2.getD k (2, 1)).2)) && decide (((S.getD i (2, 2, [])).2.2.getD k (2, 1)).2 < 9223372036854775808)) = true := fun i k => getD_all (p := fun f : Nat × Int => (decide (f.1 < 2 ^ 256) && decide (-9223372036854775808 ≤ f.2)) && decide (f.2 < 9223372036854775808)) (h2 i).2 (by decide) k
  have h6 := fun i k => Bool.and_eq_true_iff.1 (h5 i k)
  have h7 := fun i k => Bool.and_eq_true_iff.1 (h6 i k).1
  exact ⟨fun i => of_decide_eq_true (h4 i).1, fun i => of_decide_eq_true (h4 i).2, fun i k => of_decide_eq_true (h7 i k).1, fun i k => ⟨of_decide_eq_true (h7 i k).2, of_decide_eq_true (h6 i k).2⟩, fun i => of_decide_eq_true (h3 i).2⟩
/-- Proofs lie there, and prove Q; by themselves they do not prove 1. -/
def Lies (n Q : Nat) (H : Heap) : Prop := ∀ β : Nat → Nat, ∃ l, PfOk l ∧ pvS l n Q = 0 ∧ pvS l 1 Q = 20 ∧ ∀ w : World, (∀ (j : Nat) (b : AB), H[j]? = some b → w.heap[β j]? = some (b.conc β)) → prfs (some ⟨β 0, 0, none⟩) n l w
theorem lies_of {tp tf : TypeId} {S : List Sp} {Q : Nat} (hok : S.all spOk = true) (h0 : ∀ β, pvS (lOf S β) S.length Q = 0) (h1 : ∀ β, pvS (lOf S β) 1 Q = 20) : Lies S.length Q (heapS tp tf S) := by
  intro β
  refine ⟨lOf S β, pfOk_of hok β, h0 β, h1 β, fun w hw => ⟨.inr ⟨_, rfl, rfl, _, _, _, hw 0 _ rfl, fun i hi => ?_⟩, fun q hq => .inr ⟨_, rfl, rfl, _, _, _, hw (q + 1) ⟨tf, facl (S.getD q (2, 2, [])).2.2⟩ ?_, fun i hi => ?_⟩⟩⟩
  · rw [Nat.zero_add, List.getElem?_toArray, List.getElem?_map]
    have hi' : i / 9 < S.length := by omega
    rw [show i = i / 9 * 9 + i % 9 by omega, rowF_get (2, 2, []) S 1 (i / 9) (i % 9) hi' (by omega), prf_conc (by omega), prfG_at (by omega)]
    show _ = some (prfG (fun _ => pfOf (S.getD (i / 9) (2, 2, [])) (some ⟨β (i / 9 + 1), 0, none⟩)) (i % 9))
    unfold pfOf
    rw [Nat.add_comm 1 (i / 9)]
    rfl
  · show (S.map fun s => (⟨tf, facl s.2.2⟩ : AB))[q]? = _
    rw [List.getElem?_map, List.getElem?_eq_getElem hq, List.getD_eq_getElem?_getD, List.getElem?_eq_getElem hq]
    rfl
  · rw [Nat.zero_add, List.getElem?_toArray, List.getElem?_map]
    have hi2 : i < 5 * (S.getD q (2, 2, [])).2.2.length := hi
    have hi' : i / 5 < (S.getD q (2, 2, [])).2.2.length := by omega
    show ((facl (S.getD q (2, 2, [])).2.2)[i]?).map (SV.conc β) = some (facG (fun k => ((S.getD q (2, 2, [])).2.2.getD k (2, 1)).1) (fun k => ((S.getD q (2, 2, [])).2.2.getD k (2, 1)).2) i)
    rw [show i = i / 5 * 5 + i % 5 by omega, facl_get (2, 1) _ (i / 5) (i % 5) hi' (by omega), fac_conc (by omega), facG_at (by omega)]
theorem facl_ok {m : Nat} : ∀ (fs : List (Nat × Int)), ∀ x ∈ facl fs, x.ok m
  | [], x, hx => by cases hx
  | f :: fs, x, hx => by
    rcases List.mem_append.1 hx with h | h
    · have h1 : ∀ x ∈ fac f.1 f.2, x.ok m := by rw [fac_okk]; trivial
      exact h1 x h
    · exact facl_ok fs x h
theorem rowF_ok {m : Nat} : ∀ (S : List Sp) (k : Nat), k + S.length ≤ m → ∀ x ∈ rowF k S, x.ok m
  | [], k, _, x, hx => by cases hx
  | s :: S, k, h, x, hx => by
    have h2 : k + (S.length + 1) ≤ m := h
    rcases List.mem_append.1 hx with h1 | h1
    · have h3 : ∀ x ∈ prf s.1 s.2.1 (.sl k 0 s.2.2.length s.2.2.length), x.ok m := by rw [prf_okk]; show k < m; omega
      exact h3 x h1
    · exact rowF_ok S (k + 1) (by omega) x h1
theorem heapS_ok {tp tf : TypeId} {S : List Sp} : ∀ b ∈ heapS tp tf S, ∀ x ∈ b.cs, x.ok (heapS tp tf S).length := by
  have hl : (heapS tp tf S).length = S.length + 1 := by simp [heapS]
  intro b hb
  rw [hl]
  rcases List.mem_cons.1 hb with rfl | hb
  · exact rowF_ok S 1 (by omega)
  · obtain ⟨s, _, rfl⟩ := List.mem_map.1 hb
    exact facl_ok _
theorem sm_okk {P Q n m : Nat} (h : 0 < m) : TV.ok m (.tup [.agg (prms P Q 4), .s (.sl 0 0 n n)]) := by
  intro x hx
  simp only [List.mem_cons, List.not_mem_nil, or_false] at hx
  rcases hx with rfl | rfl
  · show ∀ x ∈ prms P Q 4, x.ok m
    rw [prms_okk]
    trivial
  · exact h
/-! Tryd# The four -/
def sp0 : List Sp := [(5, 2, [(2, 2)]), (11, 2, [(2, 1), (5, 1)])]
def sp1 : List Sp := [(3, 2, [(2, 1)]), (7, 3, [(2, 1), (3, 1)]), (127, 3, [(2, 1), (3, 2), (7, 1)]), (509, 2, [(2, 2), (127, 1)]), (1019, 2, [(2, 1), (509, 1)])]
def sp2 : List Sp := [(5, 2, [(2, 2)]), (41, 6, [(2, 3), (5, 1)]), (83, 2, [(2, 1), (41, 1)])]
def sp3 : List Sp := [(3, 2, [(2, 1)]), (13, 2, [(2, 2), (3, 1)]), (53, 2, [(2, 2), (13, 1)])]
theorem pv0 (β : Nat → Nat) : pvS (lOf sp0 β) 2 11 = 0 := by kernel_rfl
theorem pv1 (β : Nat → Nat) : pvS (lOf sp1 β) 5 1019 = 0 := by kernel_rfl
theorem pv2 (β : Nat → Nat) : pvS (lOf sp2 β) 3 83 = 0 := by kernel_rfl
theorem pv3 (β : Nat → Nat) : pvS (lOf sp3 β) 3 53 = 0 := by kernel_rfl
theorem pv0' (β : Nat → Nat) : pvS (lOf sp0 β) 1 11 = 20 := by kernel_rfl
theorem pv1' (β : Nat → Nat) : pvS (lOf sp1 β) 1 1019 = 20 := by kernel_rfl
theorem pv2' (β : Nat → Nat) : pvS (lOf sp2 β) 1 83 = 20 := by kernel_rfl
theorem pv3' (β : Nat → Nat) : pvS (lOf sp3 β) 1 53 = 20 := by kernel_rfl
theorem smL0 {tp tf : TypeId} : Lies 2 11 (heapS tp tf sp0) := lies_of rfl pv0 pv0'
theorem smL1 {tp tf : TypeId} : Lies 5 1019 (heapS tp tf sp1) := lies_of rfl pv1 pv1'
theorem smL2 {tp tf : TypeId} : Lies 3 83 (heapS tp tf sp2) := lies_of rfl pv2 pv2'
theorem smL3 {tp tf : TypeId} : Lies 3 53 (heapS tp tf sp3) := lies_of rfl pv3 pv3'
def smP (z : Int) : Nat := if z = 1 then 2039 else if z = 2 then 167 else if z = 3 then 107 else 23
def smQ (z : Int) : Nat := if z = 1 then 1019 else if z = 2 then 83 else if z = 3 then 53 else 11
end Go.Ab
namespace Go.Ab
open Go Go.RowKit
set_option linter.unusedSimpArgs false
set_option linter.unusedVariables false

section
variable {P : Program} {ops : Array Oper} {md : Region.Mode} {σ : Type} {D : σ → World → Prop}

end

/-! Tryd# Abstractly -/
section
variable {Γ : Ctx} {ops : Array Oper} {H0 H : Heap} {T : List TV} {M : List Nat} {L : List Oper} {K : List TV → Heap → Prop} {KL : List TV → Heap → Prop} {i len : Nat} {r : List Nat} {dst : Option Tmp} {ty t : TypeId} {pos : String} {af : Array Edge} {ps : List (Nat × Operand)}
theorem xAtM_bs : xAtM Γ ops H0 M (some ⟨dst, .buildSlice t len ps.toArray, ty, pos, af, none⟩) T H KL = xbs Γ (slcOf Γ.P t) len ps (Ab.ev T) H fun v e => famL M 0 H0 (e.app H) ∧ KL (putT T dst v) (e.app H) := by
  simp only [xAtM, xop, true_and]
  rfl
end
end Go.Ab
namespace Go.Proofs.YtdmcknmjdlghgaaDoor
open Go Go.Ab
set_option linter.unusedSimpArgs false
set_option linter.unusedVariables false
set_option linter.defProp false
set_option maxHeartbeats 20000000
set_option maxRecDepth 100000

theorem setAt_len {l vs : List SV} {off : Nat} : (setAt l off vs).length = l.length := by
  unfold setAt
  generalize vs.zipIdx = q
  induction q generalizing l with
  | nil => rfl
  | cons a q ih => rw [List.foldl_cons, ih, List.length_set]
theorem gfacb_len {p : Nat} : (setAt [.v (.int .u64 0), .v (.int .u64 0), .v (.int .u64 0), .v (.int .u64 0), .v (.int .i64 0)] 0 (nat4 p)).length = 5 := rfl
theorem gfacb {p : Nat} {e : Int} : (setAt [.v (.int .u64 0), .v (.int .u64 0), .v (.int .u64 0), .v (.int .u64 0), .v (.int .i64 0)] 0 (nat4 p)).set 4 (.v (.int .i64 e)) = fac p e := rfl
theorem gprfb_len {N : Nat} : (setAt [.v (.int .u64 0), .v (.int .u64 0), .v (.int .u64 0), .v (.int .u64 0), .v (.int .u64 0), .v (.int .u64 0), .v (.int .u64 0), .v (.int .u64 0), .v (.slice none 0 0)] 0 (nat4 N)).length = 9 := rfl
theorem gprfb_len2 {N G : Nat} : (setAt (setAt [.v (.int .u64 0), .v (.int .u64 0), .v (.int .u64 0), .v (.int .u64 0), .v (.int .u64 0), .v (.int .u64 0), .v (.int .u64 0), .v (.int .u64 0), .v (.slice none 0 0)] 0 (nat4 N)) 4 (nat4 G)).length = 9 := rfl
theorem gprfb {N G : Nat} {s : SV} : (setAt (setAt [.v (.int .u64 0), .v (.int .u64 0), .v (.int .u64 0), .v (.int .u64 0), .v (.int .u64 0), .v (.int .u64 0), .v (.int .u64 0), .v (.int .u64 0), .v (.slice none 0 0)] 0 (nat4 N)) 4 (nat4 G)).set 8 s = prf N G s := rfl
theorem gren_prf {ρ : Nat → Nat} {N G : Nat} {s : SV} : TV.ren ρ (.agg (prf N G s)) = .agg (prf N G (s.ren ρ)) := rfl
theorem gsvren_sl {ρ : Nat → Nat} {j o n c : Nat} : SV.ren ρ (.sl j o n c) = .sl (ρ j) o n c := rfl
def zgfac1 : List SV := [.v (.int .u64 0), .v (.int .u64 0), .v (.int .u64 0), .v (.int .u64 0), .v (.int .i64 0)]
theorem zgfac1_len : zgfac1.length = 5 := by kernel_rfl
theorem ghzf1 : slice0 Tryd.prog 78 1 = some zgfac1 := by kernel_rfl
theorem gfac1_all {p0 : Nat} {e0 : Int} : setAt zgfac1 0 (fac p0 e0) = (fac p0 e0) := by kernel_rfl
def zgfac2 : List SV := [.v (.int .u64 0), .v (.int .u64 0), .v (.int .u64 0), .v (.int .u64 0), .v (.int .i64 0), .v (.int .u64 0), .v (.int .u64 0), .v (.int .u64 0), .v (.int .u64 0), .v (.int .i64 0)]
theorem zgfac2_len : zgfac2.length = 10 := by kernel_rfl
theorem ghzf2 : slice0 Tryd.prog 78 2 = some zgfac2 := by kernel_rfl
theorem gfac2_all {p0 : Nat} {e0 : Int} {p1 : Nat} {e1 : Int} : setAt (setAt zgfac2 0 (fac p0 e0)) 5 (fac p1 e1) = ((fac p0 e0) ++ (fac p1 e1)) := by kernel_rfl
def zgfac3 : List SV := [.v (.int .u64 0), .v (.int .u64 0), .v (.int .u64 0), .v (.int .u64 0), .v (.int .i64 0), .v (.int .u64 0), .v (.int .u64 0), .v (.int .u64 0), .v (.int .u64 0), .v (.int .i64 0), .v (.int .u64 0), .v (.int .u64 0), .v (.int .u64 0), .v (.int .u64 0), .v (.int .i64 0)]
theorem zgfac3_len : zgfac3.length = 15 := by kernel_rfl
theorem ghzf3 : slice0 Tryd.prog 78 3 = some zgfac3 := by kernel_rfl
theorem gfac3_all {p0 : Nat} {e0 : Int} {p1 : Nat} {e1 : Int} {p2 : Nat} {e2 : Int} : setAt (setAt (setAt zgfac3 0 (fac p0 e0)) 5 (fac p1 e1)) 10 (fac p2 e2) = ((fac p0 e0) ++ ((fac p1 e1) ++ (fac p2 e2))) := by kernel_rfl
def zgprf2 : List SV := [.v (.int .u64 0), .v (.int .u64 0), .v (.int .u64 0), .v (.int .u64 0), .v (.int .u64 0), .v (.int .u64 0), .v (.int .u64 0), .v (.int .u64 0), .v (.slice none 0 0), .v (.int .u64 0), .v (.int .u64 0), .v (.int .u64 0), .v (.int .u64 0), .v (.int .u64 0), .v (.int .u64 0), .v (.int .u64 0), .v (.int .u64 0), .v (.slice none 0 0)]
theorem zgprf2_len : zgprf2.length = 18 := by kernel_rfl
theorem ghzp2 : slice0 Tryd.prog 43 2 = some zgprf2 := by kernel_rfl
theorem gprf2_all {N0 G0 : Nat} {s0 : SV} {N1 G1 : Nat} {s1 : SV} : setAt (setAt zgprf2 0 (prf N0 G0 s0)) 9 (prf N1 G1 s1) = ((prf N0 G0 s0) ++ (prf N1 G1 s1)) := by kernel_rfl
def zgprf3 : List SV := [.v (.int .u64 0), .v (.int .u64 0), .v (.int .u64 0), .v (.int .u64 0), .v (.int .u64 0), .v (.int .u64 0), .v (.int .u64 0), .v (.int .u64 0), .v (.slice none 0 0), .v (.int .u64 0), .v (.int .u64 0), .v (.int .u64 0), .v (.int .u64 0), .v (.int .u64 0), .v (.int .u64 0), .v (.int .u64 0), .v (.int .u64 0), .v (.slice none 0 0), .v (.int .u64 0), .v (.int .u64 0), .v (.int .u64 0), .v (.int .u64 0), .v (.int .u64 0), .v (.int .u64 0), .v (.int .u64 0), .v (.int .u64 0), .v (.slice none 0 0)]
theorem zgprf3_len : zgprf3.length = 27 := by kernel_rfl
theorem ghzp3 : slice0 Tryd.prog 43 3 = some zgprf3 := by kernel_rfl
theorem gprf3_all {N0 G0 : Nat} {s0 : SV} {N1 G1 : Nat} {s1 : SV} {N2 G2 : Nat} {s2 : SV} : setAt (setAt (setAt zgprf3 0 (prf N0 G0 s0)) 9 (prf N1 G1 s1)) 18 (prf N2 G2 s2) = ((prf N0 G0 s0) ++ ((prf N1 G1 s1) ++ (prf N2 G2 s2))) := by kernel_rfl
def zgprf5 : List SV := [.v (.int .u64 0), .v (.int .u64 0), .v (.int .u64 0), .v (.int .u64 0), .v (.int .u64 0), .v (.int .u64 0), .v (.int .u64 0), .v (.int .u64 0), .v (.slice none 0 0), .v (.int .u64 0), .v (.int .u64 0), .v (.int .u64 0), .v (.int .u64 0), .v (.int .u64 0), .v (.int .u64 0), .v (.int .u64 0), .v (.int .u64 0), .v (.slice none 0 0), .v (.int .u64 0), .v (.int .u64 0), .v (.int .u64 0), .v (.int .u64 0), .v (.int .u64 0), .v (.int .u64 0), .v (.int .u64 0), .v (.int .u64 0), .v (.slice none 0 0), .v (.int .u64 0), .v (.int .u64 0), .v (.int .u64 0), .v (.int .u64 0), .v (.int .u64 0), .v (.int .u64 0), .v (.int .u64 0), .v (.int .u64 0), .v (.slice none 0 0), .v (.int .u64 0), .v (.int .u64 0), .v (.int .u64 0), .v (.int .u64 0), .v (.int .u64 0), .v (.int .u64 0), .v (.int .u64 0), .v (.int .u64 0), .v (.slice none 0 0)]
theorem zgprf5_len : zgprf5.length = 45 := by kernel_rfl
theorem ghzp5 : slice0 Tryd.prog 43 5 = some zgprf5 := by kernel_rfl
theorem gprf5_all {N0 G0 : Nat} {s0 : SV} {N1 G1 : Nat} {s1 : SV} {N2 G2 : Nat} {s2 : SV} {N3 G3 : Nat} {s3 : SV} {N4 G4 : Nat} {s4 : SV} : setAt (setAt (setAt (setAt (setAt zgprf5 0 (prf N0 G0 s0)) 9 (prf N1 G1 s1)) 18 (prf N2 G2 s2)) 27 (prf N3 G3 s3)) 36 (prf N4 G4 s4) = ((prf N0 G0 s0) ++ ((prf N1 G1 s1) ++ ((prf N2 G2 s2) ++ ((prf N3 G3 s3) ++ (prf N4 G4 s4))))) := by kernel_rfl
theorem gprmz3 {P Q G : Nat} : setAt (setAt (setAt [.v (.int .u64 0), .v (.int .u64 0), .v (.int .u64 0), .v (.int .u64 0), .v (.int .u64 0), .v (.int .u64 0), .v (.int .u64 0), .v (.int .u64 0), .v (.int .u64 0), .v (.int .u64 0), .v (.int .u64 0), .v (.int .u64 0)] 0 (nat4 P)) 4 (nat4 Q)) 8 (nat4 G) = prms P Q G := by kernel_rfl
def SmR (P Q : Nat) (v : TV) (H : Heap) : Prop := ∃ n, (1 ≤ n ∧ n ≤ 5) ∧ v = .tup [.agg (prms P Q 4), .s (.sl 0 0 n n)] ∧ Lies n Q H ∧ 0 < H.length


theorem small_g0 (z : Int) (hz1 : z ≠ 1) (hz2 : z ≠ 2) (hz3 : z ≠ 3) : NewG Tryd.prog 14 [.s (.v (.int .i64 z))] (fun _ => True) (SmR 23 11) := by
  refine newG_of Tryd.func14 rfl (by simp only [List.length_cons, List.length_nil, List.map_cons, List.map_nil, List.nodup_cons, List.nodup_nil, List.mem_cons, Nat.reduceAdd, Nat.reduceEqDiff, or_false, not_false_eq_true, forall_eq_or_imp, forall_eq, or_self, Nat.reduceLT, Nat.reduceLeDiff, and_self, List.forall_mem_cons, List.not_mem_nil, false_implies, implies_true, and_true, true_and, vcOGb]) fun w _ => ?_
  simp only [List.length_cons, List.length_nil, Tryd.ntmps14, Nat.reduceAdd, Nat.reduceSub, List.replicate_succ, List.replicate_zero, List.cons_append, List.nil_append]
  have d1 : (z == 1) = false := beq_false_of_ne hz1
  have d2 : (z == 2) = false := beq_false_of_ne hz2
  have d3 : (z == 3) = false := beq_false_of_ne hz3
  (repeat' ((first | with_reducible (first | apply XR_cons | apply XR_consG | apply XR_nil | apply XM_cons | apply XM_consG | apply XM_nil | apply cF_pure2 (by assumption) | apply cM_pure2 (by assumption)) | with_reducible (first | apply X_regRS (id := 3) | apply X_regR (id := 3) | apply X_seqX (x := .seq (.region 3 _ false) _) | apply X_seqX (x := .seq (.seq (.region 3 _ false) _) _) | apply X_regRS (id := 6) | apply X_regR (id := 6) | apply X_seqX (x := .seq (.region 6 _ false) _) | apply X_seqX (x := .seq (.seq (.region 6 _ false) _) _) | apply X_regRS (id := 7) | apply X_regR (id := 7) | apply X_seqX (x := .seq (.region 7 _ false) _) | apply X_seqX (x := .seq (.seq (.region 7 _ false) _) _) | apply X_regRS (id := 8) | apply X_regR (id := 8) | apply X_seqX (x := .seq (.region 8 _ false) _) | apply X_seqX (x := .seq (.seq (.region 8 _ false) _) _) | apply X_regRS (id := 9) | apply X_regR (id := 9) | apply X_seqX (x := .seq (.region 9 _ false) _) | apply X_seqX (x := .seq (.seq (.region 9 _ false) _) _) | apply X_regRS (id := 12) | apply X_regR (id := 12) | apply X_seqX (x := .seq (.region 12 _ false) _) | apply X_seqX (x := .seq (.seq (.region 12 _ false) _) _) | apply X_regRS (id := 13) | apply X_regR (id := 13) | apply X_seqX (x := .seq (.region 13 _ false) _) | apply X_seqX (x := .seq (.seq (.region 13 _ false) _) _) | apply X_regRS (id := 16) | apply X_regR (id := 16) | apply X_seqX (x := .seq (.region 16 _ false) _) | apply X_seqX (x := .seq (.seq (.region 16 _ false) _) _) | apply X_regRS (id := 17) | apply X_regR (id := 17) | apply X_seqX (x := .seq (.region 17 _ false) _) | apply X_seqX (x := .seq (.seq (.region 17 _ false) _) _) | apply X_regRS (id := 19) | apply X_regR (id := 19) | apply X_seqX (x := .seq (.region 19 _ false) _) | apply X_seqX (x := .seq (.seq (.region 19 _ false) _) _) | apply X_condX (c := .tmp 98) | apply X_seqX (x := .cond (.tmp 98) _ _) | apply X_condX (c := .tmp 73) | apply X_seqX (x := .cond (.tmp 73) _ _) | apply X_condX (c := .tmp 30) | apply X_seqX (x := .cond (.tmp 30) _ _)) | (with_reducible apply X_drawM (id := 10) 9 [0] (.cons 9 (.cons 10 (.cons 11 .nil .nil) .nil) (.cons 10 (.cons 9 (.cons 11 .nil .nil) .nil) .nil)); (next => (kernel_rfl)); (next => (kernel_rfl))) | (with_reducible apply X_drawM (id := 14) 7 [0] (.cons 7 (.cons 8 (.cons 9 .nil .nil) .nil) (.cons 8 (.cons 7 (.cons 9 .nil .nil) .nil) .nil)); (next => (kernel_rfl)); (next => (kernel_rfl))) | (with_reducible apply X_drawM (id := 18) 7 [0] (.cons 7 (.cons 8 (.cons 9 .nil .nil) .nil) (.cons 8 (.cons 7 (.cons 9 .nil .nil) .nil) .nil)); (next => (kernel_rfl)); (next => (kernel_rfl))) | (with_reducible apply X_drawM (id := 20) 6 [0] (.cons 6 (.cons 7 (.cons 8 .nil .nil) .nil) (.cons 7 (.cons 6 (.cons 8 .nil .nil) .nil) .nil)); (next => (kernel_rfl)); (next => (kernel_rfl))) | refine X_of _ ?_ | with_reducible (first | exact ⟨_, rfl⟩ | refine And.intro ?_ ?_ | intro _)) <;> try simp -implicitDefEqProofs (maxSteps := 1000000) (disch := first | exact dz2 | fail) only [vcR, vcT, Int.reduceBEq, Int.reduceBNe, Int.reduceEq, Int.reduceNe, Ab.part, Nat.reduceAdd, Nat.reduceMul, Nat.reduceLeDiff, Nat.reduceEqDiff, Nat.reduceBEq, Nat.reduceBNe, reduceCtorEq, ↓reduceIte, implies_true, forall_const, Int.reduceNeg, Int.reduceToNat, Int.reduceLT, Int.reduceLE, Int.reduceAdd, Int.reduceSub, Int.reduceMul, Int.reducePow, Nat.reducePow, true_or, Option.isNone_some, Option.isNone_none, vcXGb, Tryd.f14, List.toList_toArray, arr4_zero, nat4_set1, nat4_setL, nat4_set0, xAtM_bs,st_bs,xbs_some,prf_splice,fac_splice,prms_splice,setAt_len,gfacb_len,gfacb,gprfb_len,gprfb_len2,gprfb,gren_prf,gsvren_sl,zgfac1_len,ghzf1,gfac1_all,zgfac2_len,ghzf2,gfac2_all,zgfac3_len,ghzf3,gfac3_all,zgprf2_len,ghzp2,gprf2_all,zgprf3_len,ghzp3,gprf3_all,zgprf5_len,ghzp5,gprf5_all,gprmz3,d1,d2,d3]))
  exact ⟨[8, 4, 6], _, heapS 43 78 sp0, ⟨2, by decide, rfl, smL0, by decide⟩, by decide, by kernel_rfl, sm_okk (by decide), ⟨by kernel_rfl, by kernel_rfl, by kernel_rfl, trivial⟩, heapS_ok⟩


theorem small_g1  : NewG Tryd.prog 14 [.s (.v (.int .i64 1))] (fun _ => True) (SmR 2039 1019) := by
  refine newG_of Tryd.func14 rfl (by simp only [List.length_cons, List.length_nil, List.map_cons, List.map_nil, List.nodup_cons, List.nodup_nil, List.mem_cons, Nat.reduceAdd, Nat.reduceEqDiff, or_false, not_false_eq_true, forall_eq_or_imp, forall_eq, or_self, Nat.reduceLT, Nat.reduceLeDiff, and_self, List.forall_mem_cons, List.not_mem_nil, false_implies, implies_true, and_true, true_and, vcOGb]) fun w _ => ?_
  simp only [List.length_cons, List.length_nil, Tryd.ntmps14, Nat.reduceAdd, Nat.reduceSub, List.replicate_succ, List.replicate_zero, List.cons_append, List.nil_append]
  (repeat' ((first | with_reducible (first | apply XR_cons | apply XR_consG | apply XR_nil | apply XM_cons | apply XM_consG | apply XM_nil | apply cF_pure2 (by assumption) | apply cM_pure2 (by assumption)) | with_reducible (first | apply X_regRS (id := 3) | apply X_regR (id := 3) | apply X_seqX (x := .seq (.region 3 _ false) _) | apply X_seqX (x := .seq (.seq (.region 3 _ false) _) _) | apply X_regRS (id := 6) | apply X_regR (id := 6) | apply X_seqX (x := .seq (.region 6 _ false) _) | apply X_seqX (x := .seq (.seq (.region 6 _ false) _) _) | apply X_regRS (id := 7) | apply X_regR (id := 7) | apply X_seqX (x := .seq (.region 7 _ false) _) | apply X_seqX (x := .seq (.seq (.region 7 _ false) _) _) | apply X_regRS (id := 8) | apply X_regR (id := 8) | apply X_seqX (x := .seq (.region 8 _ false) _) | apply X_seqX (x := .seq (.seq (.region 8 _ false) _) _) | apply X_regRS (id := 9) | apply X_regR (id := 9) | apply X_seqX (x := .seq (.region 9 _ false) _) | apply X_seqX (x := .seq (.seq (.region 9 _ false) _) _) | apply X_regRS (id := 12) | apply X_regR (id := 12) | apply X_seqX (x := .seq (.region 12 _ false) _) | apply X_seqX (x := .seq (.seq (.region 12 _ false) _) _) | apply X_regRS (id := 13) | apply X_regR (id := 13) | apply X_seqX (x := .seq (.region 13 _ false) _) | apply X_seqX (x := .seq (.seq (.region 13 _ false) _) _) | apply X_regRS (id := 16) | apply X_regR (id := 16) | apply X_seqX (x := .seq (.region 16 _ false) _) | apply X_seqX (x := .seq (.seq (.region 16 _ false) _) _) | apply X_regRS (id := 17) | apply X_regR (id := 17) | apply X_seqX (x := .seq (.region 17 _ false) _) | apply X_seqX (x := .seq (.seq (.region 17 _ false) _) _) | apply X_regRS (id := 19) | apply X_regR (id := 19) | apply X_seqX (x := .seq (.region 19 _ false) _) | apply X_seqX (x := .seq (.seq (.region 19 _ false) _) _) | apply X_condX (c := .tmp 98) | apply X_seqX (x := .cond (.tmp 98) _ _) | apply X_condX (c := .tmp 73) | apply X_seqX (x := .cond (.tmp 73) _ _) | apply X_condX (c := .tmp 30) | apply X_seqX (x := .cond (.tmp 30) _ _)) | (with_reducible apply X_drawM (id := 10) 9 [0] (.cons 9 (.cons 10 (.cons 11 .nil .nil) .nil) (.cons 10 (.cons 9 (.cons 11 .nil .nil) .nil) .nil)); (next => (kernel_rfl)); (next => (kernel_rfl))) | (with_reducible apply X_drawM (id := 14) 7 [0] (.cons 7 (.cons 8 (.cons 9 .nil .nil) .nil) (.cons 8 (.cons 7 (.cons 9 .nil .nil) .nil) .nil)); (next => (kernel_rfl)); (next => (kernel_rfl))) | (with_reducible apply X_drawM (id := 18) 7 [0] (.cons 7 (.cons 8 (.cons 9 .nil .nil) .nil) (.cons 8 (.cons 7 (.cons 9 .nil .nil) .nil) .nil)); (next => (kernel_rfl)); (next => (kernel_rfl))) | (with_reducible apply X_drawM (id := 20) 6 [0] (.cons 6 (.cons 7 (.cons 8 .nil .nil) .nil) (.cons 7 (.cons 6 (.cons 8 .nil .nil) .nil) .nil)); (next => (kernel_rfl)); (next => (kernel_rfl))) | refine X_of _ ?_ | with_reducible (first | exact ⟨_, rfl⟩ | refine And.intro ?_ ?_ | intro _)) <;> try simp -implicitDefEqProofs (maxSteps := 1000000) (disch := first | exact dz2 | fail) only [vcR, vcT, Int.reduceBEq, Int.reduceBNe, Int.reduceEq, Int.reduceNe, Ab.part, Nat.reduceAdd, Nat.reduceMul, Nat.reduceLeDiff, Nat.reduceEqDiff, Nat.reduceBEq, Nat.reduceBNe, reduceCtorEq, ↓reduceIte, implies_true, forall_const, Int.reduceNeg, Int.reduceToNat, Int.reduceLT, Int.reduceLE, Int.reduceAdd, Int.reduceSub, Int.reduceMul, Int.reducePow, Nat.reducePow, true_or, Option.isNone_some, Option.isNone_none, vcXGb, Tryd.f14, List.toList_toArray, arr4_zero, nat4_set1, nat4_setL, nat4_set0, xAtM_bs,st_bs,xbs_some,prf_splice,fac_splice,prms_splice,setAt_len,gfacb_len,gfacb,gprfb_len,gprfb_len2,gprfb,gren_prf,gsvren_sl,zgfac1_len,ghzf1,gfac1_all,zgfac2_len,ghzf2,gfac2_all,zgfac3_len,ghzf3,gfac3_all,zgprf2_len,ghzp2,gprf2_all,zgprf3_len,ghzp3,gprf3_all,zgprf5_len,ghzp5,gprf5_all,gprmz3]))
  exact ⟨[14, 2, 10, 8, 6, 12], _, heapS 43 78 sp1, ⟨5, by decide, rfl, smL1, by decide⟩, by decide, by kernel_rfl, sm_okk (by decide), ⟨by kernel_rfl, by kernel_rfl, by kernel_rfl, by kernel_rfl, by kernel_rfl, by kernel_rfl, trivial⟩, heapS_ok⟩


theorem small_g2  : NewG Tryd.prog 14 [.s (.v (.int .i64 2))] (fun _ => True) (SmR 167 83) := by
  refine newG_of Tryd.func14 rfl (by simp only [List.length_cons, List.length_nil, List.map_cons, List.map_nil, List.nodup_cons, List.nodup_nil, List.mem_cons, Nat.reduceAdd, Nat.reduceEqDiff, or_false, not_false_eq_true, forall_eq_or_imp, forall_eq, or_self, Nat.reduceLT, Nat.reduceLeDiff, and_self, List.forall_mem_cons, List.not_mem_nil, false_implies, implies_true, and_true, true_and, vcOGb]) fun w _ => ?_
  simp only [List.length_cons, List.length_nil, Tryd.ntmps14, Nat.reduceAdd, Nat.reduceSub, List.replicate_succ, List.replicate_zero, List.cons_append, List.nil_append]
  (repeat' ((first | with_reducible (first | apply XR_cons | apply XR_consG | apply XR_nil | apply XM_cons | apply XM_consG | apply XM_nil | apply cF_pure2 (by assumption) | apply cM_pure2 (by assumption)) | with_reducible (first | apply X_regRS (id := 3) | apply X_regR (id := 3) | apply X_seqX (x := .seq (.region 3 _ false) _) | apply X_seqX (x := .seq (.seq (.region 3 _ false) _) _) | apply X_regRS (id := 6) | apply X_regR (id := 6) | apply X_seqX (x := .seq (.region 6 _ false) _) | apply X_seqX (x := .seq (.seq (.region 6 _ false) _) _) | apply X_regRS (id := 7) | apply X_regR (id := 7) | apply X_seqX (x := .seq (.region 7 _ false) _) | apply X_seqX (x := .seq (.seq (.region 7 _ false) _) _) | apply X_regRS (id := 8) | apply X_regR (id := 8) | apply X_seqX (x := .seq (.region 8 _ false) _) | apply X_seqX (x := .seq (.seq (.region 8 _ false) _) _) | apply X_regRS (id := 9) | apply X_regR (id := 9) | apply X_seqX (x := .seq (.region 9 _ false) _) | apply X_seqX (x := .seq (.seq (.region 9 _ false) _) _) | apply X_regRS (id := 12) | apply X_regR (id := 12) | apply X_seqX (x := .seq (.region 12 _ false) _) | apply X_seqX (x := .seq (.seq (.region 12 _ false) _) _) | apply X_regRS (id := 13) | apply X_regR (id := 13) | apply X_seqX (x := .seq (.region 13 _ false) _) | apply X_seqX (x := .seq (.seq (.region 13 _ false) _) _) | apply X_regRS (id := 16) | apply X_regR (id := 16) | apply X_seqX (x := .seq (.region 16 _ false) _) | apply X_seqX (x := .seq (.seq (.region 16 _ false) _) _) | apply X_regRS (id := 17) | apply X_regR (id := 17) | apply X_seqX (x := .seq (.region 17 _ false) _) | apply X_seqX (x := .seq (.seq (.region 17 _ false) _) _) | apply X_regRS (id := 19) | apply X_regR (id := 19) | apply X_seqX (x := .seq (.region 19 _ false) _) | apply X_seqX (x := .seq (.seq (.region 19 _ false) _) _) | apply X_condX (c := .tmp 98) | apply X_seqX (x := .cond (.tmp 98) _ _) | apply X_condX (c := .tmp 73) | apply X_seqX (x := .cond (.tmp 73) _ _) | apply X_condX (c := .tmp 30) | apply X_seqX (x := .cond (.tmp 30) _ _)) | (with_reducible apply X_drawM (id := 10) 9 [0] (.cons 9 (.cons 10 (.cons 11 .nil .nil) .nil) (.cons 10 (.cons 9 (.cons 11 .nil .nil) .nil) .nil)); (next => (kernel_rfl)); (next => (kernel_rfl))) | (with_reducible apply X_drawM (id := 14) 7 [0] (.cons 7 (.cons 8 (.cons 9 .nil .nil) .nil) (.cons 8 (.cons 7 (.cons 9 .nil .nil) .nil) .nil)); (next => (kernel_rfl)); (next => (kernel_rfl))) | (with_reducible apply X_drawM (id := 18) 7 [0] (.cons 7 (.cons 8 (.cons 9 .nil .nil) .nil) (.cons 8 (.cons 7 (.cons 9 .nil .nil) .nil) .nil)); (next => (kernel_rfl)); (next => (kernel_rfl))) | (with_reducible apply X_drawM (id := 20) 6 [0] (.cons 6 (.cons 7 (.cons 8 .nil .nil) .nil) (.cons 7 (.cons 6 (.cons 8 .nil .nil) .nil) .nil)); (next => (kernel_rfl)); (next => (kernel_rfl))) | refine X_of _ ?_ | with_reducible (first | exact ⟨_, rfl⟩ | refine And.intro ?_ ?_ | intro _)) <;> try simp -implicitDefEqProofs (maxSteps := 1000000) (disch := first | exact dz2 | fail) only [vcR, vcT, Int.reduceBEq, Int.reduceBNe, Int.reduceEq, Int.reduceNe, Ab.part, Nat.reduceAdd, Nat.reduceMul, Nat.reduceLeDiff, Nat.reduceEqDiff, Nat.reduceBEq, Nat.reduceBNe, reduceCtorEq, ↓reduceIte, implies_true, forall_const, Int.reduceNeg, Int.reduceToNat, Int.reduceLT, Int.reduceLE, Int.reduceAdd, Int.reduceSub, Int.reduceMul, Int.reducePow, Nat.reducePow, true_or, Option.isNone_some, Option.isNone_none, vcXGb, Tryd.f14, List.toList_toArray, arr4_zero, nat4_set1, nat4_setL, nat4_set0, xAtM_bs,st_bs,xbs_some,prf_splice,fac_splice,prms_splice,setAt_len,gfacb_len,gfacb,gprfb_len,gprfb_len2,gprfb,gren_prf,gsvren_sl,zgfac1_len,ghzf1,gfac1_all,zgfac2_len,ghzf2,gfac2_all,zgfac3_len,ghzf3,gfac3_all,zgprf2_len,ghzp2,gprf2_all,zgprf3_len,ghzp3,gprf3_all,zgprf5_len,ghzp5,gprf5_all,gprmz3]))
  exact ⟨[10, 4, 6, 8], _, heapS 43 78 sp2, ⟨3, by decide, rfl, smL2, by decide⟩, by decide, by kernel_rfl, sm_okk (by decide), ⟨by kernel_rfl, by kernel_rfl, by kernel_rfl, by kernel_rfl, trivial⟩, heapS_ok⟩


theorem small_g3  : NewG Tryd.prog 14 [.s (.v (.int .i64 3))] (fun _ => True) (SmR 107 53) := by
  refine newG_of Tryd.func14 rfl (by simp only [List.length_cons, List.length_nil, List.map_cons, List.map_nil, List.nodup_cons, List.nodup_nil, List.mem_cons, Nat.reduceAdd, Nat.reduceEqDiff, or_false, not_false_eq_true, forall_eq_or_imp, forall_eq, or_self, Nat.reduceLT, Nat.reduceLeDiff, and_self, List.forall_mem_cons, List.not_mem_nil, false_implies, implies_true, and_true, true_and, vcOGb]) fun w _ => ?_
  simp only [List.length_cons, List.length_nil, Tryd.ntmps14, Nat.reduceAdd, Nat.reduceSub, List.replicate_succ, List.replicate_zero, List.cons_append, List.nil_append]
  (repeat' ((first | with_reducible (first | apply XR_cons | apply XR_consG | apply XR_nil | apply XM_cons | apply XM_consG | apply XM_nil | apply cF_pure2 (by assumption) | apply cM_pure2 (by assumption)) | with_reducible (first | apply X_regRS (id := 3) | apply X_regR (id := 3) | apply X_seqX (x := .seq (.region 3 _ false) _) | apply X_seqX (x := .seq (.seq (.region 3 _ false) _) _) | apply X_regRS (id := 6) | apply X_regR (id := 6) | apply X_seqX (x := .seq (.region 6 _ false) _) | apply X_seqX (x := .seq (.seq (.region 6 _ false) _) _) | apply X_regRS (id := 7) | apply X_regR (id := 7) | apply X_seqX (x := .seq (.region 7 _ false) _) | apply X_seqX (x := .seq (.seq (.region 7 _ false) _) _) | apply X_regRS (id := 8) | apply X_regR (id := 8) | apply X_seqX (x := .seq (.region 8 _ false) _) | apply X_seqX (x := .seq (.seq (.region 8 _ false) _) _) | apply X_regRS (id := 9) | apply X_regR (id := 9) | apply X_seqX (x := .seq (.region 9 _ false) _) | apply X_seqX (x := .seq (.seq (.region 9 _ false) _) _) | apply X_regRS (id := 12) | apply X_regR (id := 12) | apply X_seqX (x := .seq (.region 12 _ false) _) | apply X_seqX (x := .seq (.seq (.region 12 _ false) _) _) | apply X_regRS (id := 13) | apply X_regR (id := 13) | apply X_seqX (x := .seq (.region 13 _ false) _) | apply X_seqX (x := .seq (.seq (.region 13 _ false) _) _) | apply X_regRS (id := 16) | apply X_regR (id := 16) | apply X_seqX (x := .seq (.region 16 _ false) _) | apply X_seqX (x := .seq (.seq (.region 16 _ false) _) _) | apply X_regRS (id := 17) | apply X_regR (id := 17) | apply X_seqX (x := .seq (.region 17 _ false) _) | apply X_seqX (x := .seq (.seq (.region 17 _ false) _) _) | apply X_regRS (id := 19) | apply X_regR (id := 19) | apply X_seqX (x := .seq (.region 19 _ false) _) | apply X_seqX (x := .seq (.seq (.region 19 _ false) _) _) | apply X_condX (c := .tmp 98) | apply X_seqX (x := .cond (.tmp 98) _ _) | apply X_condX (c := .tmp 73) | apply X_seqX (x := .cond (.tmp 73) _ _) | apply X_condX (c := .tmp 30) | apply X_seqX (x := .cond (.tmp 30) _ _)) | (with_reducible apply X_drawM (id := 10) 9 [0] (.cons 9 (.cons 10 (.cons 11 .nil .nil) .nil) (.cons 10 (.cons 9 (.cons 11 .nil .nil) .nil) .nil)); (next => (kernel_rfl)); (next => (kernel_rfl))) | (with_reducible apply X_drawM (id := 14) 7 [0] (.cons 7 (.cons 8 (.cons 9 .nil .nil) .nil) (.cons 8 (.cons 7 (.cons 9 .nil .nil) .nil) .nil)); (next => (kernel_rfl)); (next => (kernel_rfl))) | (with_reducible apply X_drawM (id := 18) 7 [0] (.cons 7 (.cons 8 (.cons 9 .nil .nil) .nil) (.cons 8 (.cons 7 (.cons 9 .nil .nil) .nil) .nil)); (next => (kernel_rfl)); (next => (kernel_rfl))) | (with_reducible apply X_drawM (id := 20) 6 [0] (.cons 6 (.cons 7 (.cons 8 .nil .nil) .nil) (.cons 7 (.cons 6 (.cons 8 .nil .nil) .nil) .nil)); (next => (kernel_rfl)); (next => (kernel_rfl))) | refine X_of _ ?_ | with_reducible (first | exact ⟨_, rfl⟩ | refine And.intro ?_ ?_ | intro _)) <;> try simp -implicitDefEqProofs (maxSteps := 1000000) (disch := first | exact dz2 | fail) only [vcR, vcT, Int.reduceBEq, Int.reduceBNe, Int.reduceEq, Int.reduceNe, Ab.part, Nat.reduceAdd, Nat.reduceMul, Nat.reduceLeDiff, Nat.reduceEqDiff, Nat.reduceBEq, Nat.reduceBNe, reduceCtorEq, ↓reduceIte, implies_true, forall_const, Int.reduceNeg, Int.reduceToNat, Int.reduceLT, Int.reduceLE, Int.reduceAdd, Int.reduceSub, Int.reduceMul, Int.reducePow, Nat.reducePow, true_or, Option.isNone_some, Option.isNone_none, vcXGb, Tryd.f14, List.toList_toArray, arr4_zero, nat4_set1, nat4_setL, nat4_set0, xAtM_bs,st_bs,xbs_some,prf_splice,fac_splice,prms_splice,setAt_len,gfacb_len,gfacb,gprfb_len,gprfb_len2,gprfb,gren_prf,gsvren_sl,zgfac1_len,ghzf1,gfac1_all,zgfac2_len,ghzf2,gfac2_all,zgfac3_len,ghzf3,gfac3_all,zgprf2_len,ghzp2,gprf2_all,zgprf3_len,ghzp3,gprf3_all,zgprf5_len,ghzp5,gprf5_all,gprmz3]))
  exact ⟨[10, 2, 6, 8], _, heapS 43 78 sp3, ⟨3, by decide, rfl, smL3, by decide⟩, by decide, by kernel_rfl, sm_okk (by decide), ⟨by kernel_rfl, by kernel_rfl, by kernel_rfl, by kernel_rfl, trivial⟩, heapS_ok⟩

theorem small_g (z : Int) : NewG Tryd.prog 14 [.s (.v (.int .i64 z))] (fun _ => True) (SmR (smP z) (smQ z)) := by
  unfold smP smQ
  split
  · rename_i h; subst h; exact small_g1
  · split
    · rename_i h; subst h; exact small_g2
    · split
      · rename_i h; subst h; exact small_g3
      · exact small_g0 z (by assumption) (by assumption) (by assumption)
end Go.Proofs.YtdmcknmjdlghgaaDoor
namespace Go.Proofs.YtdmcknmjdlghgaaDoor
open Go Go.Ab
set_option linter.unusedSimpArgs false
set_option linter.unusedVariables false
set_option linter.defProp false
set_option maxHeartbeats 20000000
set_option maxRecDepth 100000

/-- The number one, where it lies. -/
def oneK : Nat → World → Prop := natsAt (modEvo 108) (some ⟨2, 0, none⟩) 1 fun _ => 1
theorem oneK_stays : Stays (modEvo 108) oneK := natsAt_stays _ _ _ _
theorem Kn.one1 {Γ : Ctx} (h : Kn Γ oneK) {K : TV → HE → Prop} : xext Γ (some true) 4 ⟨2, 0, none⟩ K = K (.agg (nat4 1)) .none := Kn.gnat h
/-- Is a number a member? -/
def memB (P Q a : Nat) : Bool := decide (a ≠ 0) && decide (a < P) && decide (a ^ Q % P = 1)
abbrev GK (k kx kq P Q G : Nat) : Nat → World → Prop := isGrp 108 k kx kq P Q G


theorem gQ_e (k kx kq P Q G : Nat) : EvC (modEvo 108) Tryd.prog 22 [.s (.v (.pointer (some ⟨k, 0, none⟩)))] (GK k kx kq P Q G) (.s (.v (.pointer (some ⟨kq, 0, none⟩)))) := by
  (refine evC_of Tryd.func22 rfl (by simp only [List.length_cons, List.length_nil, List.map_cons, List.map_nil, List.nodup_cons, List.nodup_nil, List.mem_cons, Nat.reduceAdd, Nat.reduceEqDiff, or_false, not_false_eq_true, forall_eq_or_imp, forall_eq, or_self, Nat.reduceLT, Nat.reduceLeDiff, and_self, List.forall_mem_cons, List.not_mem_nil, false_implies, implies_true, and_true, true_and, vcOGb]) (by simp only [List.length_cons, List.length_nil, List.map_cons, List.map_nil, List.nodup_cons, List.nodup_nil, List.mem_cons, Nat.reduceAdd, Nat.reduceEqDiff, or_false, not_false_eq_true, forall_eq_or_imp, forall_eq, or_self, Nat.reduceLT, Nat.reduceLeDiff, and_self, List.forall_mem_cons, List.not_mem_nil, false_implies, implies_true, and_true, true_and, vcOGb]) fun B w hpre => ?_; simp only [List.length_cons, List.length_nil, Tryd.ntmps22, Nat.reduceAdd, Nat.reduceSub, List.replicate_succ, List.replicate_zero, List.cons_append, List.nil_append])
  have h1 := Kn.entry (P := Tryd.prog) (isGrp_stays 108 k kx kq P Q G) hpre
  have hq : ∀ {K : TV → HE → Prop} {q : Nat}, xext (ctxE Tryd.prog (modEvo 108) w B) (some false) q ⟨k, 13, none⟩ K = K (.s (.v (.pointer (some ⟨kq, 0, none⟩)))) .none := fun {K} => h1.gq
  clear hpre
  (repeat' ((first | with_reducible (first | apply cF_pure2 (by assumption) | apply cF_ev2 (by assumption)) | refine X_of _ ?_ | with_reducible (first | exact ⟨_, rfl⟩ | refine And.intro ?_ ?_ | intro _)) <;> try simp -implicitDefEqProofs (maxSteps := 1000000) (disch := first | exact dz2 | fail) only [vcR, vcT, Int.reduceBEq, Int.reduceBNe, Int.reduceEq, Int.reduceNe, Ab.part, Nat.reduceAdd, Nat.reduceMul, Nat.reduceLeDiff, Nat.reduceEqDiff, Nat.reduceBEq, Nat.reduceBNe, reduceCtorEq, ↓reduceIte, implies_true, forall_const, Int.reduceNeg, Int.reduceToNat, Int.reduceLT, Int.reduceLE, Int.reduceAdd, Int.reduceSub, Int.reduceMul, Int.reducePow, Nat.reducePow, true_or, Option.isNone_some, Option.isNone_none, vcXGb, Tryd.f22, List.toList_toArray, arr4_zero, nat4_set1, nat4_setL, nat4_set0, addr_add,hq]))


theorem gParams_e (k kx kq P Q G : Nat) : EvC (modEvo 108) Tryd.prog 21 [.s (.v (.pointer (some ⟨k, 0, none⟩)))] (GK k kx kq P Q G) (.agg (prms P Q G)) := by
  (refine evC_of Tryd.func21 rfl (by simp only [List.length_cons, List.length_nil, List.map_cons, List.map_nil, List.nodup_cons, List.nodup_nil, List.mem_cons, Nat.reduceAdd, Nat.reduceEqDiff, or_false, not_false_eq_true, forall_eq_or_imp, forall_eq, or_self, Nat.reduceLT, Nat.reduceLeDiff, and_self, List.forall_mem_cons, List.not_mem_nil, false_implies, implies_true, and_true, true_and, vcOGb]) (by simp only [List.length_cons, List.length_nil, List.map_cons, List.map_nil, List.nodup_cons, List.nodup_nil, List.mem_cons, Nat.reduceAdd, Nat.reduceEqDiff, or_false, not_false_eq_true, forall_eq_or_imp, forall_eq, or_self, Nat.reduceLT, Nat.reduceLeDiff, and_self, List.forall_mem_cons, List.not_mem_nil, false_implies, implies_true, and_true, true_and, vcOGb]) fun B w hpre => ?_; simp only [List.length_cons, List.length_nil, Tryd.ntmps21, Nat.reduceAdd, Nat.reduceSub, List.replicate_succ, List.replicate_zero, List.cons_append, List.nil_append])
  have h1 := Kn.entry (P := Tryd.prog) (isGrp_stays 108 k kx kq P Q G) hpre
  have hq : ∀ {K : TV → HE → Prop}, xext (ctxE Tryd.prog (modEvo 108) w B) (some true) 12 ⟨k, 0, none⟩ K = K (.agg (prms P Q G)) .none := fun {K} => h1.gp
  clear hpre
  (repeat' ((first | with_reducible (first | apply cF_pure2 (by assumption) | apply cF_ev2 (by assumption)) | refine X_of _ ?_ | with_reducible (first | exact ⟨_, rfl⟩ | refine And.intro ?_ ?_ | intro _)) <;> try simp -implicitDefEqProofs (maxSteps := 1000000) (disch := first | exact dz2 | fail) only [vcR, vcT, Int.reduceBEq, Int.reduceBNe, Int.reduceEq, Int.reduceNe, Ab.part, Nat.reduceAdd, Nat.reduceMul, Nat.reduceLeDiff, Nat.reduceEqDiff, Nat.reduceBEq, Nat.reduceBNe, reduceCtorEq, ↓reduceIte, implies_true, forall_const, Int.reduceNeg, Int.reduceToNat, Int.reduceLT, Int.reduceLE, Int.reduceAdd, Int.reduceSub, Int.reduceMul, Int.reducePow, Nat.reducePow, true_or, Option.isNone_some, Option.isNone_none, vcXGb, Tryd.f21, List.toList_toArray, arr4_zero, nat4_set1, nat4_setL, nat4_set0, addr_add,hq,prms_splice]))


theorem gBase_e (k kx kq P Q G n : Nat) (hG : G < 2 ^ 256) (hn : n < 2 ^ 256) : EvC (modEvo 108) Tryd.prog 18 [.s (.v (.pointer (some ⟨k, 0, none⟩))), .agg (nat4 n)] (GK k kx kq P Q G) (.agg (nat4 (G ^ n % P))) := by
  (refine evC_of Tryd.func18 rfl (by simp only [List.length_cons, List.length_nil, List.map_cons, List.map_nil, List.nodup_cons, List.nodup_nil, List.mem_cons, Nat.reduceAdd, Nat.reduceEqDiff, or_false, not_false_eq_true, forall_eq_or_imp, forall_eq, or_self, Nat.reduceLT, Nat.reduceLeDiff, and_self, List.forall_mem_cons, List.not_mem_nil, false_implies, implies_true, and_true, true_and, vcOGb]) (by simp only [List.length_cons, List.length_nil, List.map_cons, List.map_nil, List.nodup_cons, List.nodup_nil, List.mem_cons, Nat.reduceAdd, Nat.reduceEqDiff, or_false, not_false_eq_true, forall_eq_or_imp, forall_eq, or_self, Nat.reduceLT, Nat.reduceLeDiff, and_self, List.forall_mem_cons, List.not_mem_nil, false_implies, implies_true, and_true, true_and, vcOGb]) fun B w hpre => ?_; simp only [List.length_cons, List.length_nil, Tryd.ntmps18, Nat.reduceAdd, Nat.reduceSub, List.replicate_succ, List.replicate_zero, List.cons_append, List.nil_append])
  have h1 := Kn.entry (P := Tryd.prog) (isGrp_stays 108 k kx kq P Q G) hpre
  have hm := h1.gmx
  obtain ⟨hP, hQ⟩ := h1.gOdd
  have hx : ∀ {K : TV → HE → Prop} {q : Nat}, xext (ctxE Tryd.prog (modEvo 108) w B) (some false) q ⟨k, 12, none⟩ K = K (.s (.v (.pointer (some ⟨kx, 0, none⟩)))) .none := fun {K} => h1.gx
  have hg : ∀ {K : TV → HE → Prop}, xext (ctxE Tryd.prog (modEvo 108) w B) (some true) 4 ⟨k, 8, none⟩ K = K (.agg (nat4 G)) .none := fun {K} => h1.gG
  clear hpre
  have hpw := pow_e kx P G n hP hG hn
  obtain ⟨r, hr⟩ : ∃ r, G ^ n % P = r := ⟨_, rfl⟩
  rw [hr] at hpw ⊢
  (repeat' ((first | with_reducible (first | apply XQ_cons | apply XQ_consG | apply XQ_nil | apply XR_cons | apply XR_consG | apply XR_nil | apply cF_pure2 (by assumption) | apply cV_pure2 (by assumption) | apply cF_ev2 (by assumption) | apply cV_ev2 (by assumption)) | (with_reducible apply X_drawC (id := 1) 11; (next => (kernel_rfl)); (next => (kernel_rfl))) | refine X_of _ ?_ | with_reducible (first | exact ⟨_, rfl⟩ | refine And.intro ?_ ?_ | intro _)) <;> try simp -implicitDefEqProofs (maxSteps := 1000000) (disch := first | exact dz2 | fail) only [vcR, vcT, Int.reduceBEq, Int.reduceBNe, Int.reduceEq, Int.reduceNe, Ab.part, Nat.reduceAdd, Nat.reduceMul, Nat.reduceLeDiff, Nat.reduceEqDiff, Nat.reduceBEq, Nat.reduceBNe, reduceCtorEq, ↓reduceIte, implies_true, forall_const, Int.reduceNeg, Int.reduceToNat, Int.reduceLT, Int.reduceLE, Int.reduceAdd, Int.reduceSub, Int.reduceMul, Int.reducePow, Nat.reducePow, true_or, Option.isNone_some, Option.isNone_none, vcXGb, Tryd.f18, List.toList_toArray, arr4_zero, nat4_set1, nat4_setL, nat4_set0, addr_add,hx,hg]))


theorem gMember_e (k kx kq P Q G a : Nat) (hP2 : P < 2 ^ 256) (hQ2 : Q < 2 ^ 256) (ha : a < 2 ^ 256) :
    EvC (modEvo 108) Tryd.prog 17 [.s (.v (.pointer (some ⟨k, 0, none⟩))), .agg (nat4 a)] (fun B w => GK k kx kq P Q G B w ∧ oneK B w) (.s (.v (.bool (memB P Q a)))) := by
  (refine evC_of Tryd.func17 rfl (by simp only [List.length_cons, List.length_nil, List.map_cons, List.map_nil, List.nodup_cons, List.nodup_nil, List.mem_cons, Nat.reduceAdd, Nat.reduceEqDiff, or_false, not_false_eq_true, forall_eq_or_imp, forall_eq, or_self, Nat.reduceLT, Nat.reduceLeDiff, and_self, List.forall_mem_cons, List.not_mem_nil, false_implies, implies_true, and_true, true_and, vcOGb]) (by simp only [List.length_cons, List.length_nil, List.map_cons, List.map_nil, List.nodup_cons, List.nodup_nil, List.mem_cons, Nat.reduceAdd, Nat.reduceEqDiff, or_false, not_false_eq_true, forall_eq_or_imp, forall_eq, or_self, Nat.reduceLT, Nat.reduceLeDiff, and_self, List.forall_mem_cons, List.not_mem_nil, false_implies, implies_true, and_true, true_and, vcOGb]) fun B w hpre => ?_; simp only [List.length_cons, List.length_nil, Tryd.ntmps17, Nat.reduceAdd, Nat.reduceSub, List.replicate_succ, List.replicate_zero, List.cons_append, List.nil_append])
  have h0 := Kn.entry (P := Tryd.prog) ((isGrp_stays 108 k kx kq P Q G).and oneK_stays) hpre
  have h1 := h0.left
  have h2 := h0.right
  have hm := h1.gmx
  obtain ⟨hP, hQ⟩ := h1.gOdd
  have hx : ∀ {K : TV → HE → Prop} {q : Nat}, xext (ctxE Tryd.prog (modEvo 108) w B) (some false) q ⟨k, 12, none⟩ K = K (.s (.v (.pointer (some ⟨kx, 0, none⟩)))) .none := fun {K} => h1.gx
  have hp : ∀ {K : TV → HE → Prop}, xext (ctxE Tryd.prog (modEvo 108) w B) (some true) 4 ⟨k, 0, none⟩ K = K (.agg (nat4 P)) .none := fun {K} => h1.gP
  have hq : ∀ {K : TV → HE → Prop}, xext (ctxE Tryd.prog (modEvo 108) w B) (some true) 4 ⟨k, 4, none⟩ K = K (.agg (nat4 Q)) .none := fun {K} => h1.gQ
  have h11 : ∀ {K : TV → HE → Prop}, xext (ctxE Tryd.prog (modEvo 108) w B) (some true) 4 ⟨2, 0, none⟩ K = K (.agg (nat4 1)) .none := fun {K} => Kn.one1 h2
  clear hpre h0
  have hpw := pow_e kx P a Q hP ha hQ2
  unfold memB
  obtain ⟨r, hr⟩ : ∃ r, a ^ Q % P = r := ⟨_, rfl⟩
  have hr2 : r < 2 ^ 256 := by rw [← hr]; exact Nat.lt_of_lt_of_le (Nat.mod_lt _ hP.pos) (Nat.le_of_lt hP2)
  rw [hr] at hpw ⊢
  clear hr
  by_cases ha0 : a = 0
  · subst ha0
    (repeat' ((first | with_reducible (first | apply XQ_cons | apply XQ_consG | apply XQ_nil | apply XR_cons | apply XR_consG | apply XR_nil | apply cF_pure2 (by assumption) | apply cV_pure2 (by assumption) | apply cF_ev2 (by assumption) | apply cV_ev2 (by assumption) | apply cF_pure2 (cmp_c _ _ bd2 bd2) | apply cV_pure2 (cmp_c _ _ bd2 bd2)) | (with_reducible apply X_drawC (id := 1) 29; (next => (kernel_rfl)); (next => (kernel_rfl))) | refine X_of _ ?_ | with_reducible (first | exact ⟨_, rfl⟩ | refine And.intro ?_ ?_ | intro _)) <;> try simp -implicitDefEqProofs (maxSteps := 1000000) (disch := first | exact dz2 | fail) only [vcR, vcT, Int.reduceBEq, Int.reduceBNe, Int.reduceEq, Int.reduceNe, Ab.part, Nat.reduceAdd, Nat.reduceMul, Nat.reduceLeDiff, Nat.reduceEqDiff, Nat.reduceBEq, Nat.reduceBNe, reduceCtorEq, ↓reduceIte, implies_true, forall_const, Int.reduceNeg, Int.reduceToNat, Int.reduceLT, Int.reduceLE, Int.reduceAdd, Int.reduceSub, Int.reduceMul, Int.reducePow, Nat.reducePow, true_or, Option.isNone_some, Option.isNone_none, vcXGb, Tryd.f17, List.toList_toArray, arr4_zero, nat4_set1, nat4_setL, nat4_set0, addr_add,hx,hp,hq,h11]))
    rfl
  · have hd0 : decide (a = 0) = false := decide_eq_false ha0
    have hd1 : decide (a ≠ 0) = true := decide_eq_true ha0
    by_cases haP : a < P
    · have hs := sg_lt0 haP
      have hdP : decide (a < P) = true := decide_eq_true haP
      rw [hd1, hdP]
      clear hd1 hdP ha0 haP
      (repeat' ((first | with_reducible (first | apply XQ_cons | apply XQ_consG | apply XQ_nil | apply XR_cons | apply XR_consG | apply XR_nil | apply cF_pure2 (by assumption) | apply cV_pure2 (by assumption) | apply cF_ev2 (by assumption) | apply cV_ev2 (by assumption) | apply cF_pure2 (cmp_c _ _ bd2 bd2) | apply cV_pure2 (cmp_c _ _ bd2 bd2)) | (with_reducible apply X_drawC (id := 1) 29; (next => (kernel_rfl)); (next => (kernel_rfl))) | refine X_of _ ?_ | with_reducible (first | exact ⟨_, rfl⟩ | refine And.intro ?_ ?_ | intro _)) <;> try simp -implicitDefEqProofs (maxSteps := 1000000) (disch := first | exact dz2 | fail) only [vcR, vcT, Int.reduceBEq, Int.reduceBNe, Int.reduceEq, Int.reduceNe, Ab.part, Nat.reduceAdd, Nat.reduceMul, Nat.reduceLeDiff, Nat.reduceEqDiff, Nat.reduceBEq, Nat.reduceBNe, reduceCtorEq, ↓reduceIte, implies_true, forall_const, Int.reduceNeg, Int.reduceToNat, Int.reduceLT, Int.reduceLE, Int.reduceAdd, Int.reduceSub, Int.reduceMul, Int.reducePow, Nat.reducePow, true_or, Option.isNone_some, Option.isNone_none, vcXGb, Tryd.f17, List.toList_toArray, arr4_zero, nat4_set1, nat4_setL, nat4_set0, addr_add,hx,hp,hq,h11,hd0,hs]))
      simp
    · have hs : ¬ sg a P < 0 := by have := sg_nonneg (Nat.le_of_not_lt haP); omega
      have hdP : decide (a < P) = false := decide_eq_false haP
      rw [hd1, hdP]
      clear hd1 hdP ha0 haP
      (repeat' ((first | with_reducible (first | apply XQ_cons | apply XQ_consG | apply XQ_nil | apply XR_cons | apply XR_consG | apply XR_nil | apply cF_pure2 (by assumption) | apply cV_pure2 (by assumption) | apply cF_ev2 (by assumption) | apply cV_ev2 (by assumption) | apply cF_pure2 (cmp_c _ _ bd2 bd2) | apply cV_pure2 (cmp_c _ _ bd2 bd2)) | (with_reducible apply X_drawC (id := 1) 29; (next => (kernel_rfl)); (next => (kernel_rfl))) | refine X_of _ ?_ | with_reducible (first | exact ⟨_, rfl⟩ | refine And.intro ?_ ?_ | intro _)) <;> try simp -implicitDefEqProofs (maxSteps := 1000000) (disch := first | exact dz2 | fail) only [vcR, vcT, Int.reduceBEq, Int.reduceBNe, Int.reduceEq, Int.reduceNe, Ab.part, Nat.reduceAdd, Nat.reduceMul, Nat.reduceLeDiff, Nat.reduceEqDiff, Nat.reduceBEq, Nat.reduceBNe, reduceCtorEq, ↓reduceIte, implies_true, forall_const, Int.reduceNeg, Int.reduceToNat, Int.reduceLT, Int.reduceLE, Int.reduceAdd, Int.reduceSub, Int.reduceMul, Int.reducePow, Nat.reducePow, true_or, Option.isNone_some, Option.isNone_none, vcXGb, Tryd.f17, List.toList_toArray, arr4_zero, nat4_set1, nat4_setL, nat4_set0, addr_add,hx,hp,hq,h11,hd0,hs]))
      simp
end Go.Proofs.YtdmcknmjdlghgaaDoor
namespace Go.Proofs.YtdmcknmjdlghgaaDoor
open Go Go.Ab
set_option linter.unusedSimpArgs false
set_option linter.unusedVariables false
set_option linter.defProp false
def vcXPb := (And.intro (And.intro (And.intro (And.intro (And.intro (And.intro (And.intro @modc_length (And.intro @modc_take @modc_sq)) (And.intro @modc_i (And.intro @modS_length @dgs_length))) (And.intro (And.intro @dgs_one (And.intro @dgs_get @nats_length)) (And.intro @fac_length (And.intro @fac_fst @fac_snd)))) (And.intro (And.intro (And.intro @fac_one (And.intro @prf_length @prf_fst)) (And.intro @prf_snd (And.intro @prf_thd @prf_one))) (And.intro (And.intro @fz_prf (And.intro @avren_sl @qm_call)) (And.intro (And.intro @qm_move @qm_assign) (And.intro @qm_pick @qm_build))))) (And.intro (And.intro (And.intro (And.intro @qm_load (And.intro @qm_nilCheck @qm_binOp)) (And.intro @qm_unOp (And.intro @qm_convert @qm_fieldAddr))) (And.intro (And.intro @qm_field (And.intro @qm_indexAddr @qm_index)) (And.intro (And.intro @qm_extract @qm_makeFunc) (And.intro @xcalledM_first @xcalledM_cap)))) (And.intro (And.intro (And.intro @maskOK_p (And.intro @maskOK_v @xcallHM_value)) (And.intro @xcallHM_len (And.intro @xcalledM_some @xTrM_nil))) (And.intro (And.intro @xTrM_false (And.intro @xTrM_cons @xAtM_assign)) (And.intro (And.intro @xAtM_move @xAtM_extract) (And.intro @xAtM_alloc @xAtM_store)))))) (And.intro (And.intro (And.intro (And.intro (And.intro @famL_nil (And.intro @famL_cons @tf108_row)) (And.intro @tf108_sz (And.intro @tf108_szO @tf108_f0))) (And.intro (And.intro @tf108_f1 (And.intro @tf108_f2 @tf108_f3)) (And.intro (And.intro @tf108_known @tf108_zero) (And.intro @tf108_p0 @tf108_p1)))) (And.intro (And.intro (And.intro @tf108_p2 (And.intro @tf108_p3 @tf108_slc)) (And.intro @tf142_row (And.intro @tf142_sz @tf142_szO))) (And.intro (And.intro @tf142_arr (And.intro @tf142_known @tf142_eq)) (And.intro (And.intro @tf142_zero @tf142_lits) (And.intro @tf142_place @tf142_slc))))) (And.intro (And.intro (And.intro (And.intro @tf46_row (And.intro @tf46_sz @tf46_szO)) (And.intro @tf46_slc (And.intro @tf46_ptr @tf46_zero))) (And.intro (And.intro @tf144_row (And.intro @tf144_sz @tf144_szO)) (And.intro (And.intro @tf144_slc @tf144_ptr) (And.intro @tf144_zero @tf145_row)))) (And.intro (And.intro (And.intro @tf145_sz (And.intro @tf145_szO @tf145_slc)) (And.intro @tf145_arr (And.intro @tf145_isSlc @tf145_zero))) (And.intro (And.intro @tf98_row (And.intro @tf98_sz @tf98_szO)) (And.intro (And.intro @tf98_slc @tf98_int) (And.intro @tf98_zero @tf21_row))))))) (And.intro (And.intro (And.intro (And.intro (And.intro (And.intro @tf21_sz (And.intro @tf21_szO @tf21_slc)) (And.intro @tf21_int (And.intro @tf21_zero @ctxN_P))) (And.intro (And.intro @ctxN_TM (And.intro @bnd_none @bnd_int)) (And.intro @xslB_some (And.intro @xslice_p @xslice_sl)))) (And.intro (And.intro (And.intro @xslice_v (And.intro @xarrAt_sl @xarrAt_v)) (And.intro @tf50_row (And.intro @tf50_sz @tf50_szO))) (And.intro (And.intro @tf50_slc (And.intro @tf50_arr @tf50_isSlc)) (And.intro (And.intro @tf50_zero @tf78_row) (And.intro @tf78_sz @tf78_szO))))) (And.intro (And.intro (And.intro (And.intro @tf78_f0 (And.intro @tf78_f1 @tf78_known)) (And.intro @tf78_eq (And.intro @tf78_zero @tf78_p0))) (And.intro (And.intro @tf78_p1 (And.intro @tf78_slc @tf41_row)) (And.intro (And.intro @tf41_sz @tf41_szO) (And.intro @tf41_slc @tf41_arr)))) (And.intro (And.intro (And.intro @tf41_isSlc (And.intro @tf41_zero @tf43_row)) (And.intro @tf43_sz (And.intro @tf43_szO @tf43_f0))) (And.intro (And.intro @tf43_f1 (And.intro @tf43_f2 @tf43_known)) (And.intro (And.intro @tf43_zero @tf43_p0) (And.intro @tf43_p1 @tf43_p2)))))) (And.intro (And.intro (And.intro (And.intro (And.intro @tf43_slc (And.intro @tf28_row @tf28_sz)) (And.intro @tf28_szO (And.intro @tf28_slc @tf28_arr))) (And.intro (And.intro @tf28_isSlc (And.intro @tf28_zero @tf131_row)) (And.intro (And.intro @tf131_sz @tf131_szO) (And.intro @tf131_slc @ctxE_P)))) (And.intro (And.intro (And.intro @ctxE_TM (And.intro @modEvo_TM @after_P)) (And.intro @after_TM (And.intro @fz_v @fz_p))) (And.intro (And.intro @fz_sl (And.intro @fz_agg @fz_tup)) (And.intro (And.intro @fz_undef @avfz_v) (And.intro @avfz_p @avfz_sl))))) (And.intro (And.intro (And.intro (And.intro @avfz_agg (And.intro @svfz_v @svfz_p)) (And.intro @svfz_sl (And.intro @fzP_none @fzP_some))) (And.intro (And.intro @fzS_none (And.intro @fzS_some @fz_nat4)) (And.intro (And.intro @fz_arr @fz_iarr) (And.intro @fzB_some @fzH_nil)))) (And.intro (And.intro (And.intro @fzH_cons (And.intro @posL_nil @posL_cons)) (And.intro @ren_v (And.intro @ren_p @ren_sl))) (And.intro (And.intro @ren_undef (And.intro @ren_nat4 @ren_tupE)) (And.intro (And.intro @ren_tup @avren_v) (And.intro @avren_p @avren_nat4))))))))
def vcQPb := (And.intro (And.intro (And.intro (And.intro @okT_nil (And.intro @okT_cons @okS_nil)) (And.intro @okS_cons (And.intro @okA_nil @okA_cons))) (And.intro (And.intro @and_self (And.intro @true_and @and_true)) (And.intro (And.intro @okv_p @okv_sl) (And.intro @oks_s @oks_agg)))) (And.intro (And.intro (And.intro @oks_tup (And.intro @oka_s @oka_agg)) (And.intro (And.intro @okv_v @nat4_okk) (And.intro @nat8_okk @arr_okk))) (And.intro (And.intro @iarr_okk (And.intro @modc_okk @modS_okk)) (And.intro (And.intro @dgs_okk @nats_okk) (And.intro @fac_okk @prf_okk)))))
def vcOPb := (And.intro (And.intro (And.intro (And.intro @okv_p @okv_sl) (And.intro @oks_s @oks_agg)) (And.intro (And.intro @oks_tup @oka_s) (And.intro @oka_agg (And.intro @okv_v @nat4_okk)))) (And.intro (And.intro (And.intro @nat8_okk @arr_okk) (And.intro @iarr_okk @modc_okk)) (And.intro (And.intro @modS_okk @dgs_okk) (And.intro @nats_okk (And.intro @fac_okk @prf_okk)))))
/-- A bound, or the like. -/
theorem bd1 {p : Prop} (h : p := by first | (with_reducible first | assumption | exact OddM.mod_lt (by assumption) | exact OddM.mo_lt (by assumption) | exact OddM.mo_lt' (by assumption) | exact OddM.img_lt (by assumption) | exact OddM.lt (by assumption) | exact OddM.pos (by assumption) | exact lt512 (by assumption) | exact lt512_add (by first | assumption | exact OddM.mod_lt (by assumption)) (by first | assumption | exact OddM.lt (by assumption)) | exact lt512_mul (by assumption) (by assumption)) | decide | omega) : p := h
/-- What simp asks for on its way. -/
theorem dz1 {p : Prop} (h : p := by first | (simp only [nat4_length, nat8_length, arr_length, iarr_length, modc_length, modS_length, dgs_length, nats_length, fac_length, prf_length, List.length_cons, List.length_nil, Nat.reduceAdd]; done) | omega) : p := h
section
variable {Γ : Ctx} {P : Program} {V : Evo} {H : Heap} {M : List Nat} {f : FuncId} {args : List TV} {r : TV} {pre : Nat → World → Prop} {K : TV → Heap → Prop} {KV : TV → Prop}
theorem cF_pure1 (h : PureC P f args r) (hK : K r H) (hP : Γ.P = P := by with_unfolding_all rfl) (hc : callable P f = true := by kernel_rfl) : xcallF Γ H f args K := yF_pure h hP hc hK
theorem cV_pure1 (h : PureC P f args r) (hK : KV r) (hP : Γ.P = P := by with_unfolding_all rfl) (hc : callable P f = true := by kernel_rfl) : xcallV Γ H f args KV := yV_pure h hP hc hK
theorem cM_pure1 (h : PureC P f args r) (hK : KV r) (hP : Γ.P = P := by with_unfolding_all rfl) (hc : callable P f = true := by kernel_rfl) : xcallM Γ H M f args KV := yM_pure h hP hc hK
theorem cF_ev1 (h : EvC V P f args pre r) (hK : K r H) (hP : Γ.P = P := by with_unfolding_all rfl) (hV : Γ.ev = V := by with_unfolding_all rfl) (hc : callable P f = true := by kernel_rfl) (ha : ∀ x ∈ args, x.ok 0 := by simp only [vcQPb])
    (hp : Kn Γ pre := by with_reducible first | assumption | exact Kn.and (by assumption) (by assumption)) : xcallF Γ H f args K := yF_ev h hP hV hc ha hp hK
theorem cV_ev1 (h : EvC V P f args pre r) (hK : KV r) (hP : Γ.P = P := by with_unfolding_all rfl) (hV : Γ.ev = V := by with_unfolding_all rfl) (hc : callable P f = true := by kernel_rfl) (ha : ∀ x ∈ args, x.ok 0 := by simp only [vcQPb])
    (hp : Kn Γ pre := by with_reducible first | assumption | exact Kn.and (by assumption) (by assumption)) : xcallV Γ H f args KV := yV_ev h hP hV hc ha hp hK
theorem cM_ev1 (h : EvC V P f args pre r) (hK : KV r) (hP : Γ.P = P := by with_unfolding_all rfl) (hV : Γ.ev = V := by with_unfolding_all rfl) (hc : callable P f = true := by kernel_rfl) (ha : ∀ x ∈ args, x.ok 0 := by simp only [vcQPb])
    (hp : Kn Γ pre := by with_reducible first | assumption | exact Kn.and (by assumption) (by assumption)) : xcallM Γ H M f args KV := yM_ev h hP hV hc ha hp hK
theorem cF_new1 {R : TV → Heap → Prop} (h : NewC P f args R) (hK : ∀ v H', R v H' → K (v.ren (· + H.length)) (H ++ H')) (hP : Γ.P = P := by with_unfolding_all rfl) (hc : callable P f = true := by kernel_rfl) (hev : ∀ t, ¬ Γ.ev.TM t := by with_unfolding_all exact fun _ h => h) : xcallF Γ H f args K := yF_new h hP hc hev hK
end
end Go.Proofs.YtdmcknmjdlghgaaDoor
namespace Go.Proofs.YtdmcknmjdlghgaaDoor
open Go Go.Ab
set_option linter.unusedSimpArgs false
set_option linter.unusedVariables false
set_option linter.defProp false
set_option maxHeartbeats 20000000
set_option maxRecDepth 100000

/-- The lower four words alone. -/
def low4 (X : Nat) (j : Nat) : Nat := if j = 3 then wd X 3 else if j = 2 then wd X 2 else if j = 1 then wd X 1 else if j = 0 then wd X 0 else 0
theorem low4_lt (X j : Nat) : low4 X j < 18446744073709551616 := by
  unfold low4
  repeat' split
  all_goals first | exact wd_lt _ _ | decide
theorem low4_lits {X : Nat} : litsA Tryd.prog 87 (some (arr 8 fun j => if j = 3 then wd X 3 else if j = 2 then wd X 2 else if j = 1 then wd X 1 else if j = 0 then wd X 0 else 0)) = some (lits 8 (low4 X)) :=
  litsA_arr (f := low4 X) tf87_u (by kernel_rfl : Tryd.prog.underlying 22 = some (.int .u64)) (by kernel_rfl) (by kernel_rfl) fun i _ => low4_lt X i
theorem nat8_tk {X : Nat} : List.take 4 (nat8 X) = nat4 X := rfl
theorem low4_eq {X : Nat} (h : X < 2 ^ 256 * 2 ^ 256) : litsEq (lits 8 (wd X)) (lits 8 (low4 X)) = decide (X < 2 ^ 256) := by
  rw [litsEq_lits, Bool.eq_iff_iff, decide_eq_true_iff, decide_eq_true_iff]
  constructor
  · intro hh
    have h0 : X / 2 ^ 256 = 0 := wd_inj4 _ 0 ((Nat.div_lt_iff_lt_mul (Nat.two_pow_pos _)).2 h) (Nat.two_pow_pos _) fun k hk => by
      rw [wd_shift, wd_zero, hh (k + 4) (by omega)]
      unfold low4
      rw [if_neg (by omega), if_neg (by omega), if_neg (by omega), if_neg (by omega)]
    rcases (Nat.div_eq_zero_iff).1 h0 with h1 | h1
    · exact absurd h1 (Nat.ne_of_gt (Nat.two_pow_pos _))
    · exact h1
  · intro hh i hi
    unfold low4
    split
    · rename_i e; rw [e]
    split
    · rename_i e; rw [e]
    split
    · rename_i e; rw [e]
    split
    · rename_i e; rw [e]
    exact wd_big2 X i 256 hh (by omega)


theorem product_m (x : Option Addr) (n c : Nat) (P : Nat → Nat) (E : Nat → Int) (hP : ∀ i, P i < 2 ^ 256) (hE : ∀ i, -9223372036854775808 ≤ E i ∧ E i < 9223372036854775808) (hn : n < 9223372036854775808) :
    PureM Tryd.prog 104 [.s (.v (.slice x n c))] (facs x n P E) (.tup [.agg (nat4 (prS n P E).1), .s (.v (.int .i64 (prS n P E).2))]) := by
  obtain ⟨r, hr⟩ : ∃ r, prS n P E = r := ⟨_, rfl⟩
  rw [hr]
  (refine pureM_of Tryd.func104 rfl (by simp only [List.length_cons, List.length_nil, List.map_cons, List.map_nil, List.nodup_cons, List.nodup_nil, List.mem_cons, Nat.reduceAdd, Nat.reduceEqDiff, or_false, not_false_eq_true, forall_eq_or_imp, forall_eq, or_self, Nat.reduceLT, Nat.reduceLeDiff, and_self, List.forall_mem_cons, List.not_mem_nil, false_implies, implies_true, and_true, true_and, vcOPb]) (by simp only [List.length_cons, List.length_nil, List.map_cons, List.map_nil, List.nodup_cons, List.nodup_nil, List.mem_cons, Nat.reduceAdd, Nat.reduceEqDiff, or_false, not_false_eq_true, forall_eq_or_imp, forall_eq, or_self, Nat.reduceLT, Nat.reduceLeDiff, and_self, List.forall_mem_cons, List.not_mem_nil, false_implies, implies_true, and_true, true_and, vcOPb]) fun w hpre => ?_; simp only [List.length_cons, List.length_nil, Tryd.ntmps104, Nat.reduceAdd, Nat.reduceSub, List.replicate_succ, List.replicate_zero, List.cons_append, List.nil_append])
  have hN : Kn (ctx0 Tryd.prog w) (facsAt Evo.none x n P E) := facs_kn hpre
  have hadr : n ≠ 0 → ∃ ad, x = some ad := fun h => by
    rcases hpre with h0 | ⟨ad, h0, _⟩
    · omega
    · exact ⟨ad, h0⟩
  clear hpre
  by_cases h40 : 40 < n
  · have h40' : (40 : Int) < (n : Int) := by omega
    rw [prS_long h40] at hr
    subst hr
    (repeat' ((first | with_reducible (first | apply XR_slice | apply XR_arrAt | apply XR_cons | apply XR_consG | apply XR_nil | apply cF_pure1 (by assumption) | apply cF_ev1 (by assumption) | apply cF_pure1 (mul_c _ _ bd1 bd1)) | with_reducible (first | apply X_regRS (id := 7) | apply X_regR (id := 7) | apply X_seqX (x := .seq (.region 7 _ false) _) | apply X_seqX (x := .seq (.seq (.region 7 _ false) _) _) | apply X_regRS (id := 9) | apply X_regR (id := 9) | apply X_seqX (x := .seq (.region 9 _ false) _) | apply X_seqX (x := .seq (.seq (.region 9 _ false) _) _) | apply X_regRS (id := 20) | apply X_regR (id := 20) | apply X_seqX (x := .seq (.region 20 _ false) _) | apply X_seqX (x := .seq (.seq (.region 20 _ false) _) _) | apply X_regRS (id := 22) | apply X_regR (id := 22) | apply X_seqX (x := .seq (.region 22 _ false) _) | apply X_seqX (x := .seq (.seq (.region 22 _ false) _) _)) | refine X_of _ ?_ | with_reducible (first | exact ⟨_, rfl⟩ | refine And.intro ?_ ?_ | intro _)) <;> try simp -implicitDefEqProofs (maxSteps := 1000000) (disch := first | exact dz1 | fail) only [vcR, vcT, Int.reduceBEq, Int.reduceBNe, Int.reduceEq, Int.reduceNe, Ab.part, Nat.reduceAdd, Nat.reduceMul, Nat.reduceLeDiff, Nat.reduceEqDiff, Nat.reduceBEq, Nat.reduceBNe, reduceCtorEq, ↓reduceIte, implies_true, forall_const, Int.reduceNeg, Int.reduceToNat, Int.reduceLT, Int.reduceLE, Int.reduceAdd, Int.reduceSub, Int.reduceMul, Int.reducePow, Nat.reducePow, true_or, Option.isNone_some, Option.isNone_none, vcXPb, Tryd.f104, List.toList_toArray, arr4_zero, nat4_set1, nat4_setL, nat4_set0, h40']))
  · have h40' : ¬ (40 : Int) < (n : Int) := by omega
    (repeat' ((first | with_reducible (first | apply XR_slice | apply XR_arrAt | apply XR_cons | apply XR_consG | apply XR_nil | apply cF_pure1 (by assumption) | apply cF_ev1 (by assumption) | apply cF_pure1 (mul_c _ _ bd1 bd1)) | with_reducible (first | apply X_regRS (id := 7) | apply X_regR (id := 7) | apply X_seqX (x := .seq (.region 7 _ false) _) | apply X_seqX (x := .seq (.seq (.region 7 _ false) _) _) | apply X_regRS (id := 9) | apply X_regR (id := 9) | apply X_seqX (x := .seq (.region 9 _ false) _) | apply X_seqX (x := .seq (.seq (.region 9 _ false) _) _) | apply X_regRS (id := 20) | apply X_regR (id := 20) | apply X_seqX (x := .seq (.region 20 _ false) _) | apply X_seqX (x := .seq (.seq (.region 20 _ false) _) _) | apply X_regRS (id := 22) | apply X_regR (id := 22) | apply X_seqX (x := .seq (.region 22 _ false) _) | apply X_seqX (x := .seq (.seq (.region 22 _ false) _) _)) | refine X_of _ ?_ | with_reducible (first | exact ⟨_, rfl⟩ | refine And.intro ?_ ?_ | intro _)) <;> try simp -implicitDefEqProofs (maxSteps := 1000000) (disch := first | exact dz1 | fail) only [vcR, vcT, Int.reduceBEq, Int.reduceBNe, Int.reduceEq, Int.reduceNe, Ab.part, Nat.reduceAdd, Nat.reduceMul, Nat.reduceLeDiff, Nat.reduceEqDiff, Nat.reduceBEq, Nat.reduceBNe, reduceCtorEq, ↓reduceIte, implies_true, forall_const, Int.reduceNeg, Int.reduceToNat, Int.reduceLT, Int.reduceLE, Int.reduceAdd, Int.reduceSub, Int.reduceMul, Int.reducePow, Nat.reducePow, true_or, Option.isNone_some, Option.isNone_none, vcXPb, Tryd.f104, List.toList_toArray, arr4_zero, nat4_set1, nat4_setL, nat4_set0, h40']))
    refine X_loop (ι := Nat) (fun i => i ≤ n ∧ ∀ j, j < i → eBad E j = false) (fun i => n - i) [4, 6, 17, 18, 19, 20, 21, 22, 23, 24, 25, 26, 27, 28, 29, 30, 31, 32, 33, 34, 35, 36, 37]
      (fun i => [(4, .s (.v (.bool (anyB i fun j => P j == 0)))), (17, .s (.v (.int .i64 (i : Nat))))])
      (fun i => []) 0 (shape_of fun i => ?_) (by decide) ?_ ?_
    · simp only [List.length_cons, List.length_nil, List.map_cons, List.map_nil, List.nodup_cons, List.nodup_nil, List.mem_cons, Nat.reduceAdd, Nat.reduceEqDiff, or_false, not_false_eq_true, forall_eq_or_imp, forall_eq, or_self, Nat.reduceLT, Nat.reduceLeDiff, and_self, List.forall_mem_cons, List.not_mem_nil, false_implies, implies_true, and_true, true_and, vcOPb]
    · simp -implicitDefEqProofs (maxSteps := 1000000) (disch := first | exact dz1 | fail) only [vcR, vcT, Int.reduceBEq, Int.reduceBNe, Int.reduceEq, Int.reduceNe, Ab.part, Nat.reduceAdd, Nat.reduceMul, Nat.reduceLeDiff, Nat.reduceEqDiff, Nat.reduceBEq, Nat.reduceBNe, reduceCtorEq, ↓reduceIte, implies_true, forall_const, Int.reduceNeg, Int.reduceToNat, Int.reduceLT, Int.reduceLE, Int.reduceAdd, Int.reduceSub, Int.reduceMul, Int.reducePow, Nat.reducePow, true_or, Option.isNone_some, Option.isNone_none, vcXPb, Tryd.f104, List.toList_toArray, again_eq]
      exact ⟨rfl, _, rfl⟩
    · intro i us ⟨hi, hbad⟩
      by_cases h : i < n
      · obtain ⟨ad, rfl⟩ := hadr (by omega)
        have hx : ∀ {K : TV → HE → Prop}, xext (ctx0 Tryd.prog w) (some true) 5 (ad.add (i * 5)) K = K (.agg (fac (P i) (E i))) .none := fun {K} => hN.fac h
        have hPi := hP i
        have hl0 : litsEq (lits 4 (wd (P i))) (lits 4 (wd 0)) = (P i == 0) := litsEq_nat4 hPi (by decide)
        by_cases he1 : E i < 1
        · rw [prS_bad h40 h (eBad_true.2 (.inl he1))] at hr
          subst hr
          (repeat' ((first | with_reducible (first | apply XR_slice | apply XR_arrAt | apply XR_cons | apply XR_consG | apply XR_nil | apply cF_pure1 (by assumption) | apply cF_ev1 (by assumption) | apply cF_pure1 (mul_c _ _ bd1 bd1)) | with_reducible (first | apply X_regRS (id := 7) | apply X_regR (id := 7) | apply X_seqX (x := .seq (.region 7 _ false) _) | apply X_seqX (x := .seq (.seq (.region 7 _ false) _) _) | apply X_regRS (id := 9) | apply X_regR (id := 9) | apply X_seqX (x := .seq (.region 9 _ false) _) | apply X_seqX (x := .seq (.seq (.region 9 _ false) _) _) | apply X_regRS (id := 20) | apply X_regR (id := 20) | apply X_seqX (x := .seq (.region 20 _ false) _) | apply X_seqX (x := .seq (.seq (.region 20 _ false) _) _) | apply X_regRS (id := 22) | apply X_regR (id := 22) | apply X_seqX (x := .seq (.region 22 _ false) _) | apply X_seqX (x := .seq (.seq (.region 22 _ false) _) _)) | refine X_of _ ?_ | with_reducible (first | exact ⟨_, rfl⟩ | refine And.intro ?_ ?_ | intro _)) <;> try simp -implicitDefEqProofs (maxSteps := 1000000) (disch := first | exact dz1 | fail) only [vcR, vcT, Int.reduceBEq, Int.reduceBNe, Int.reduceEq, Int.reduceNe, Ab.part, Nat.reduceAdd, Nat.reduceMul, Nat.reduceLeDiff, Nat.reduceEqDiff, Nat.reduceBEq, Nat.reduceBNe, reduceCtorEq, ↓reduceIte, implies_true, forall_const, Int.reduceNeg, Int.reduceToNat, Int.reduceLT, Int.reduceLE, Int.reduceAdd, Int.reduceSub, Int.reduceMul, Int.reducePow, Nat.reducePow, true_or, Option.isNone_some, Option.isNone_none, vcXPb, Tryd.f104, List.toList_toArray, arr4_zero, nat4_set1, nat4_setL, nat4_set0, hx,he1]))
        · by_cases he2 : 255 < E i
          · rw [prS_bad h40 h (eBad_true.2 (.inr he2))] at hr
            subst hr
            (repeat' ((first | with_reducible (first | apply XR_slice | apply XR_arrAt | apply XR_cons | apply XR_consG | apply XR_nil | apply cF_pure1 (by assumption) | apply cF_ev1 (by assumption) | apply cF_pure1 (mul_c _ _ bd1 bd1)) | with_reducible (first | apply X_regRS (id := 7) | apply X_regR (id := 7) | apply X_seqX (x := .seq (.region 7 _ false) _) | apply X_seqX (x := .seq (.seq (.region 7 _ false) _) _) | apply X_regRS (id := 9) | apply X_regR (id := 9) | apply X_seqX (x := .seq (.region 9 _ false) _) | apply X_seqX (x := .seq (.seq (.region 9 _ false) _) _) | apply X_regRS (id := 20) | apply X_regR (id := 20) | apply X_seqX (x := .seq (.region 20 _ false) _) | apply X_seqX (x := .seq (.seq (.region 20 _ false) _) _) | apply X_regRS (id := 22) | apply X_regR (id := 22) | apply X_seqX (x := .seq (.region 22 _ false) _) | apply X_seqX (x := .seq (.seq (.region 22 _ false) _) _)) | refine X_of _ ?_ | with_reducible (first | exact ⟨_, rfl⟩ | refine And.intro ?_ ?_ | intro _)) <;> try simp -implicitDefEqProofs (maxSteps := 1000000) (disch := first | exact dz1 | fail) only [vcR, vcT, Int.reduceBEq, Int.reduceBNe, Int.reduceEq, Int.reduceNe, Ab.part, Nat.reduceAdd, Nat.reduceMul, Nat.reduceLeDiff, Nat.reduceEqDiff, Nat.reduceBEq, Nat.reduceBNe, reduceCtorEq, ↓reduceIte, implies_true, forall_const, Int.reduceNeg, Int.reduceToNat, Int.reduceLT, Int.reduceLE, Int.reduceAdd, Int.reduceSub, Int.reduceMul, Int.reducePow, Nat.reducePow, true_or, Option.isNone_some, Option.isNone_none, vcXPb, Tryd.f104, List.toList_toArray, arr4_zero, nat4_set1, nat4_setL, nat4_set0, hx,he1,he2]))
          · have hb : eBad E i = false := eBad_false.2 ⟨by omega, by omega⟩
            have hbad' : ∀ j, j < i + 1 → eBad E j = false := fun j hj => by
              by_cases hji : j = i
              · subst hji; exact hb
              · exact hbad j (by omega)
            obtain ⟨z, hz⟩ : ∃ z, (anyB i fun j => P j == 0) = z := ⟨_, rfl⟩
            have hz' : (anyB (i + 1) fun j => P j == 0) = (z || (P i == 0)) := by rw [anyB_succ, hz]
            rw [hz]
            clear hadr hbad hb hE hP hr hz
            cases z with
            | true =>
              (repeat' ((first | with_reducible (first | apply XR_slice | apply XR_arrAt | apply XR_cons | apply XR_consG | apply XR_nil | apply cF_pure1 (by assumption) | apply cF_ev1 (by assumption) | apply cF_pure1 (mul_c _ _ bd1 bd1)) | with_reducible (first | apply X_regRS (id := 7) | apply X_regR (id := 7) | apply X_seqX (x := .seq (.region 7 _ false) _) | apply X_seqX (x := .seq (.seq (.region 7 _ false) _) _) | apply X_regRS (id := 9) | apply X_regR (id := 9) | apply X_seqX (x := .seq (.region 9 _ false) _) | apply X_seqX (x := .seq (.seq (.region 9 _ false) _) _) | apply X_regRS (id := 20) | apply X_regR (id := 20) | apply X_seqX (x := .seq (.region 20 _ false) _) | apply X_seqX (x := .seq (.seq (.region 20 _ false) _) _) | apply X_regRS (id := 22) | apply X_regR (id := 22) | apply X_seqX (x := .seq (.region 22 _ false) _) | apply X_seqX (x := .seq (.seq (.region 22 _ false) _) _)) | refine X_of _ ?_ | with_reducible (first | exact ⟨_, rfl⟩ | refine And.intro ?_ ?_ | intro _)) <;> try simp -implicitDefEqProofs (maxSteps := 1000000) (disch := first | exact dz1 | fail) only [vcR, vcT, Int.reduceBEq, Int.reduceBNe, Int.reduceEq, Int.reduceNe, Ab.part, Nat.reduceAdd, Nat.reduceMul, Nat.reduceLeDiff, Nat.reduceEqDiff, Nat.reduceBEq, Nat.reduceBNe, reduceCtorEq, ↓reduceIte, implies_true, forall_const, Int.reduceNeg, Int.reduceToNat, Int.reduceLT, Int.reduceLE, Int.reduceAdd, Int.reduceSub, Int.reduceMul, Int.reducePow, Nat.reducePow, true_or, Option.isNone_some, Option.isNone_none, vcXPb, Tryd.f104, List.toList_toArray, arr4_zero, nat4_set1, nat4_setL, nat4_set0, hx,he1,he2]))
              refine ⟨i + 1, by omega, ?_⟩
              simp -implicitDefEqProofs (maxSteps := 1000000) (disch := first | exact dz1 | fail) only [vcR, vcT, Int.reduceBEq, Int.reduceBNe, Int.reduceEq, Int.reduceNe, Ab.part, Nat.reduceAdd, Nat.reduceMul, Nat.reduceLeDiff, Nat.reduceEqDiff, Nat.reduceBEq, Nat.reduceBNe, reduceCtorEq, ↓reduceIte, implies_true, forall_const, Int.reduceNeg, Int.reduceToNat, Int.reduceLT, Int.reduceLE, Int.reduceAdd, Int.reduceSub, Int.reduceMul, Int.reducePow, Nat.reducePow, true_or, Option.isNone_some, Option.isNone_none, vcXPb, Tryd.f104, List.toList_toArray, again_eq]
              exact ⟨hbad', by rw [hz']; rfl, _, rfl⟩
            | false =>
              (repeat' ((first | with_reducible (first | apply XR_slice | apply XR_arrAt | apply XR_cons | apply XR_consG | apply XR_nil | apply cF_pure1 (by assumption) | apply cF_ev1 (by assumption) | apply cF_pure1 (mul_c _ _ bd1 bd1)) | with_reducible (first | apply X_regRS (id := 7) | apply X_regR (id := 7) | apply X_seqX (x := .seq (.region 7 _ false) _) | apply X_seqX (x := .seq (.seq (.region 7 _ false) _) _) | apply X_regRS (id := 9) | apply X_regR (id := 9) | apply X_seqX (x := .seq (.region 9 _ false) _) | apply X_seqX (x := .seq (.seq (.region 9 _ false) _) _) | apply X_regRS (id := 20) | apply X_regR (id := 20) | apply X_seqX (x := .seq (.region 20 _ false) _) | apply X_seqX (x := .seq (.seq (.region 20 _ false) _) _) | apply X_regRS (id := 22) | apply X_regR (id := 22) | apply X_seqX (x := .seq (.region 22 _ false) _) | apply X_seqX (x := .seq (.seq (.region 22 _ false) _) _)) | refine X_of _ ?_ | with_reducible (first | exact ⟨_, rfl⟩ | refine And.intro ?_ ?_ | intro _)) <;> try simp -implicitDefEqProofs (maxSteps := 1000000) (disch := first | exact dz1 | fail) only [vcR, vcT, Int.reduceBEq, Int.reduceBNe, Int.reduceEq, Int.reduceNe, Ab.part, Nat.reduceAdd, Nat.reduceMul, Nat.reduceLeDiff, Nat.reduceEqDiff, Nat.reduceBEq, Nat.reduceBNe, reduceCtorEq, ↓reduceIte, implies_true, forall_const, Int.reduceNeg, Int.reduceToNat, Int.reduceLT, Int.reduceLE, Int.reduceAdd, Int.reduceSub, Int.reduceMul, Int.reducePow, Nat.reducePow, true_or, Option.isNone_some, Option.isNone_none, vcXPb, Tryd.f104, List.toList_toArray, arr4_zero, nat4_set1, nat4_setL, nat4_set0, hx,he1,he2,hl0]))
              refine ⟨i + 1, by omega, ?_⟩
              simp -implicitDefEqProofs (maxSteps := 1000000) (disch := first | exact dz1 | fail) only [vcR, vcT, Int.reduceBEq, Int.reduceBNe, Int.reduceEq, Int.reduceNe, Ab.part, Nat.reduceAdd, Nat.reduceMul, Nat.reduceLeDiff, Nat.reduceEqDiff, Nat.reduceBEq, Nat.reduceBNe, reduceCtorEq, ↓reduceIte, implies_true, forall_const, Int.reduceNeg, Int.reduceToNat, Int.reduceLT, Int.reduceLE, Int.reduceAdd, Int.reduceSub, Int.reduceMul, Int.reducePow, Nat.reducePow, true_or, Option.isNone_some, Option.isNone_none, vcXPb, Tryd.f104, List.toList_toArray, again_eq]
              exact ⟨hbad', by rw [hz', Bool.false_or], _, rfl⟩
      · have : i = n := by omega
        subst this
        obtain ⟨z, hz⟩ : ∃ z, (anyB i fun j => P j == 0) = z := ⟨_, rfl⟩
        rw [hz]
        cases z with
        | true =>
          rw [prS_zero h40 hbad hz] at hr
          subst hr
          (repeat' ((first | with_reducible (first | apply XR_slice | apply XR_arrAt | apply XR_cons | apply XR_consG | apply XR_nil | apply cF_pure1 (by assumption) | apply cF_ev1 (by assumption) | apply cF_pure1 (mul_c _ _ bd1 bd1)) | with_reducible (first | apply X_regRS (id := 7) | apply X_regR (id := 7) | apply X_seqX (x := .seq (.region 7 _ false) _) | apply X_seqX (x := .seq (.seq (.region 7 _ false) _) _) | apply X_regRS (id := 9) | apply X_regR (id := 9) | apply X_seqX (x := .seq (.region 9 _ false) _) | apply X_seqX (x := .seq (.seq (.region 9 _ false) _) _) | apply X_regRS (id := 20) | apply X_regR (id := 20) | apply X_seqX (x := .seq (.region 20 _ false) _) | apply X_seqX (x := .seq (.seq (.region 20 _ false) _) _) | apply X_regRS (id := 22) | apply X_regR (id := 22) | apply X_seqX (x := .seq (.region 22 _ false) _) | apply X_seqX (x := .seq (.seq (.region 22 _ false) _) _)) | refine X_of _ ?_ | with_reducible (first | exact ⟨_, rfl⟩ | refine And.intro ?_ ?_ | intro _)) <;> try simp -implicitDefEqProofs (maxSteps := 1000000) (disch := first | exact dz1 | fail) only [vcR, vcT, Int.reduceBEq, Int.reduceBNe, Int.reduceEq, Int.reduceNe, Ab.part, Nat.reduceAdd, Nat.reduceMul, Nat.reduceLeDiff, Nat.reduceEqDiff, Nat.reduceBEq, Nat.reduceBNe, reduceCtorEq, ↓reduceIte, implies_true, forall_const, Int.reduceNeg, Int.reduceToNat, Int.reduceLT, Int.reduceLE, Int.reduceAdd, Int.reduceSub, Int.reduceMul, Int.reducePow, Nat.reducePow, true_or, Option.isNone_some, Option.isNone_none, vcXPb, Tryd.f104, List.toList_toArray, arr4_zero, nat4_set1, nat4_setL, nat4_set0]))
        | false =>
          have hpos := zero_pos hz
          (repeat' ((first | with_reducible (first | apply XR_slice | apply XR_arrAt | apply XR_cons | apply XR_consG | apply XR_nil | apply cF_pure1 (by assumption) | apply cF_ev1 (by assumption) | apply cF_pure1 (mul_c _ _ bd1 bd1)) | with_reducible (first | apply X_regRS (id := 7) | apply X_regR (id := 7) | apply X_seqX (x := .seq (.region 7 _ false) _) | apply X_seqX (x := .seq (.seq (.region 7 _ false) _) _) | apply X_regRS (id := 9) | apply X_regR (id := 9) | apply X_seqX (x := .seq (.region 9 _ false) _) | apply X_seqX (x := .seq (.seq (.region 9 _ false) _) _) | apply X_regRS (id := 20) | apply X_regR (id := 20) | apply X_seqX (x := .seq (.region 20 _ false) _) | apply X_seqX (x := .seq (.seq (.region 20 _ false) _) _) | apply X_regRS (id := 22) | apply X_regR (id := 22) | apply X_seqX (x := .seq (.region 22 _ false) _) | apply X_seqX (x := .seq (.seq (.region 22 _ false) _) _)) | refine X_of _ ?_ | with_reducible (first | exact ⟨_, rfl⟩ | refine And.intro ?_ ?_ | intro _)) <;> try simp -implicitDefEqProofs (maxSteps := 1000000) (disch := first | exact dz1 | fail) only [vcR, vcT, Int.reduceBEq, Int.reduceBNe, Int.reduceEq, Int.reduceNe, Ab.part, Nat.reduceAdd, Nat.reduceMul, Nat.reduceLeDiff, Nat.reduceEqDiff, Nat.reduceBEq, Nat.reduceBNe, reduceCtorEq, ↓reduceIte, implies_true, forall_const, Int.reduceNeg, Int.reduceToNat, Int.reduceLT, Int.reduceLE, Int.reduceAdd, Int.reduceSub, Int.reduceMul, Int.reducePow, Nat.reducePow, true_or, Option.isNone_some, Option.isNone_none, vcXPb, Tryd.f104, List.toList_toArray, arr4_zero, nat4_set1, nat4_setL, nat4_set0]))
          refine X_loop (ι := Nat) (fun k => k ≤ i ∧ prT P E k < 2 ^ 256) (fun k => i - k) [9, 10, 43, 44, 45, 46, 47, 48, 49, 50, 51, 52, 53, 54, 55, 56, 57, 58, 59, 60, 61, 62, 63, 64, 65, 66, 67, 68, 69, 70, 71]
            (fun k => [(43, .s (.v (.int .i64 (k : Nat))))])
            (fun k => [(1, nat4 (prT P E k))]) 0 (shape_of fun k => ?_) (by decide) ?_ ?_
          · simp only [List.length_cons, List.length_nil, List.map_cons, List.map_nil, List.nodup_cons, List.nodup_nil, List.mem_cons, Nat.reduceAdd, Nat.reduceEqDiff, or_false, not_false_eq_true, forall_eq_or_imp, forall_eq, or_self, Nat.reduceLT, Nat.reduceLeDiff, and_self, List.forall_mem_cons, List.not_mem_nil, false_implies, implies_true, and_true, true_and, vcOPb]
          · simp -implicitDefEqProofs (maxSteps := 1000000) (disch := first | exact dz1 | fail) only [vcR, vcT, Int.reduceBEq, Int.reduceBNe, Int.reduceEq, Int.reduceNe, Ab.part, Nat.reduceAdd, Nat.reduceMul, Nat.reduceLeDiff, Nat.reduceEqDiff, Nat.reduceBEq, Nat.reduceBNe, reduceCtorEq, ↓reduceIte, implies_true, forall_const, Int.reduceNeg, Int.reduceToNat, Int.reduceLT, Int.reduceLE, Int.reduceAdd, Int.reduceSub, Int.reduceMul, Int.reducePow, Nat.reducePow, true_or, Option.isNone_some, Option.isNone_none, vcXPb, Tryd.f104, List.toList_toArray, again_eq]
            exact ⟨by show 1 < _; decide, _, rfl, rfl⟩
          · intro k us2 ⟨hk, hkT⟩
            by_cases hki : k < i
            · obtain ⟨ad, rfl⟩ := hadr (by omega)
              have hx : ∀ {K : TV → HE → Prop}, xext (ctx0 Tryd.prog w) (some true) 5 (ad.add (k * 5)) K = K (.agg (fac (P k) (E k))) .none := fun {K} => hN.fac hki
              have hPk := hP k
              obtain ⟨e, he⟩ : ∃ e : Nat, E k = (e : Int) := ⟨(E k).toNat, by have := (eBad_false.1 (hbad k hki)).1; omega⟩
              have he255 : e ≤ 255 := by have := (eBad_false.1 (hbad k hki)).2; omega
              rw [he] at hx
              (repeat' ((first | with_reducible (first | apply XR_slice | apply XR_arrAt | apply XR_cons | apply XR_consG | apply XR_nil | apply cF_pure1 (by assumption) | apply cF_ev1 (by assumption) | apply cF_pure1 (mul_c _ _ bd1 bd1)) | with_reducible (first | apply X_regRS (id := 7) | apply X_regR (id := 7) | apply X_seqX (x := .seq (.region 7 _ false) _) | apply X_seqX (x := .seq (.seq (.region 7 _ false) _) _) | apply X_regRS (id := 9) | apply X_regR (id := 9) | apply X_seqX (x := .seq (.region 9 _ false) _) | apply X_seqX (x := .seq (.seq (.region 9 _ false) _) _) | apply X_regRS (id := 20) | apply X_regR (id := 20) | apply X_seqX (x := .seq (.region 20 _ false) _) | apply X_seqX (x := .seq (.seq (.region 20 _ false) _) _) | apply X_regRS (id := 22) | apply X_regR (id := 22) | apply X_seqX (x := .seq (.region 22 _ false) _) | apply X_seqX (x := .seq (.seq (.region 22 _ false) _) _)) | refine X_of _ ?_ | with_reducible (first | exact ⟨_, rfl⟩ | refine And.intro ?_ ?_ | intro _)) <;> try simp -implicitDefEqProofs (maxSteps := 1000000) (disch := first | exact dz1 | fail) only [vcR, vcT, Int.reduceBEq, Int.reduceBNe, Int.reduceEq, Int.reduceNe, Ab.part, Nat.reduceAdd, Nat.reduceMul, Nat.reduceLeDiff, Nat.reduceEqDiff, Nat.reduceBEq, Nat.reduceBNe, reduceCtorEq, ↓reduceIte, implies_true, forall_const, Int.reduceNeg, Int.reduceToNat, Int.reduceLT, Int.reduceLE, Int.reduceAdd, Int.reduceSub, Int.reduceMul, Int.reducePow, Nat.reducePow, true_or, Option.isNone_some, Option.isNone_none, vcXPb, Tryd.f104, List.toList_toArray, arr4_zero, nat4_set1, nat4_setL, nat4_set0, hx]))
              obtain ⟨t, ht⟩ : ∃ t, prT P E k = t := ⟨_, rfl⟩
              have hpart := fun q (hq : q ≤ e) => prT_part (E := E) (k := q) hpos hki (by rw [he]; exact hq)
              have hnext : prT P E (k + 1) = t * P k ^ e := by
                show prT P E k * P k ^ (E k).toNat = _
                rw [ht, he]; rfl
              rw [ht] at hkT hpart ⊢
              refine X_loop (ι := Nat) (fun q => q ≤ e ∧ t * P k ^ q < 2 ^ 256) (fun q => e - q) [10, 49, 50, 51, 52, 53, 54, 55, 56, 57, 58, 59, 60, 61, 62, 63, 64, 65, 66, 67, 68, 69, 70]
                (fun q => [(49, .s (.v (.int .i64 (q : Nat))))])
                (fun q => [(1, nat4 (t * P k ^ q))]) 0 (shape_of fun q => ?_) (by decide) ?_ ?_
              · simp only [List.length_cons, List.length_nil, List.map_cons, List.map_nil, List.nodup_cons, List.nodup_nil, List.mem_cons, Nat.reduceAdd, Nat.reduceEqDiff, or_false, not_false_eq_true, forall_eq_or_imp, forall_eq, or_self, Nat.reduceLT, Nat.reduceLeDiff, and_self, List.forall_mem_cons, List.not_mem_nil, false_implies, implies_true, and_true, true_and, vcOPb]
              · simp -implicitDefEqProofs (maxSteps := 1000000) (disch := first | exact dz1 | fail) only [vcR, vcT, Int.reduceBEq, Int.reduceBNe, Int.reduceEq, Int.reduceNe, Ab.part, Nat.reduceAdd, Nat.reduceMul, Nat.reduceLeDiff, Nat.reduceEqDiff, Nat.reduceBEq, Nat.reduceBNe, reduceCtorEq, ↓reduceIte, implies_true, forall_const, Int.reduceNeg, Int.reduceToNat, Int.reduceLT, Int.reduceLE, Int.reduceAdd, Int.reduceSub, Int.reduceMul, Int.reducePow, Nat.reducePow, true_or, Option.isNone_some, Option.isNone_none, vcXPb, Tryd.f104, List.toList_toArray, again_eq]
                exact ⟨by rw [Nat.pow_zero, Nat.mul_one]; exact hkT, _, by rw [Nat.pow_zero, Nat.mul_one], rfl⟩
              · intro q us3 ⟨hq, hqT⟩
                by_cases hqe : q < e
                · have hp1 := hpart (q + 1) hqe
                  rw [Nat.pow_succ, ← Nat.mul_assoc] at hp1
                  have hn1 : t * P k ^ (q + 1) = t * P k ^ q * P k := by rw [Nat.pow_succ, Nat.mul_assoc]
                  obtain ⟨o, ho⟩ : ∃ o, t * P k ^ q = o := ⟨_, rfl⟩
                  rw [ho] at hp1 hqT hn1 ⊢
                  by_cases hfit : o * P k < 2 ^ 256
                  · clear hr hpart hnext hadr hbad hP hE
                    have hX := low4_eq (X := o * P k) (Nat.mul_lt_mul'' hqT hPk)
                    rw [decide_eq_true hfit] at hX
                    (repeat' ((first | with_reducible (first | apply XR_slice | apply XR_arrAt | apply XR_cons | apply XR_consG | apply XR_nil | apply cF_pure1 (by assumption) | apply cF_ev1 (by assumption) | apply cF_pure1 (mul_c _ _ bd1 bd1)) | with_reducible (first | apply X_regRS (id := 7) | apply X_regR (id := 7) | apply X_seqX (x := .seq (.region 7 _ false) _) | apply X_seqX (x := .seq (.seq (.region 7 _ false) _) _) | apply X_regRS (id := 9) | apply X_regR (id := 9) | apply X_seqX (x := .seq (.region 9 _ false) _) | apply X_seqX (x := .seq (.seq (.region 9 _ false) _) _) | apply X_regRS (id := 20) | apply X_regR (id := 20) | apply X_seqX (x := .seq (.region 20 _ false) _) | apply X_seqX (x := .seq (.seq (.region 20 _ false) _) _) | apply X_regRS (id := 22) | apply X_regR (id := 22) | apply X_seqX (x := .seq (.region 22 _ false) _) | apply X_seqX (x := .seq (.seq (.region 22 _ false) _) _)) | refine X_of _ ?_ | with_reducible (first | exact ⟨_, rfl⟩ | refine And.intro ?_ ?_ | intro _)) <;> try simp -implicitDefEqProofs (maxSteps := 1000000) (disch := first | exact dz1 | fail) only [vcR, vcT, Int.reduceBEq, Int.reduceBNe, Int.reduceEq, Int.reduceNe, Ab.part, Nat.reduceAdd, Nat.reduceMul, Nat.reduceLeDiff, Nat.reduceEqDiff, Nat.reduceBEq, Nat.reduceBNe, reduceCtorEq, ↓reduceIte, implies_true, forall_const, Int.reduceNeg, Int.reduceToNat, Int.reduceLT, Int.reduceLE, Int.reduceAdd, Int.reduceSub, Int.reduceMul, Int.reducePow, Nat.reducePow, true_or, Option.isNone_some, Option.isNone_none, vcXPb, Tryd.f104, List.toList_toArray, arr4_zero, nat4_set1, nat4_setL, nat4_set0, low4_lits,hX,nat8_tk]))
                    refine ⟨q + 1, by omega, ?_⟩
                    simp -implicitDefEqProofs (maxSteps := 1000000) (disch := first | exact dz1 | fail) only [vcR, vcT, Int.reduceBEq, Int.reduceBNe, Int.reduceEq, Int.reduceNe, Ab.part, Nat.reduceAdd, Nat.reduceMul, Nat.reduceLeDiff, Nat.reduceEqDiff, Nat.reduceBEq, Nat.reduceBNe, reduceCtorEq, ↓reduceIte, implies_true, forall_const, Int.reduceNeg, Int.reduceToNat, Int.reduceLT, Int.reduceLE, Int.reduceAdd, Int.reduceSub, Int.reduceMul, Int.reducePow, Nat.reducePow, true_or, Option.isNone_some, Option.isNone_none, vcXPb, Tryd.f104, List.toList_toArray, again_eq]
                    exact ⟨_, by rw [hn1], rfl⟩
                  · rw [prS_over h40 hbad hz (by omega)] at hr
                    subst hr
                    clear hpart hnext hadr hbad hP hE
                    have hX := low4_eq (X := o * P k) (Nat.mul_lt_mul'' hqT hPk)
                    rw [decide_eq_false hfit] at hX
                    (repeat' ((first | with_reducible (first | apply XR_slice | apply XR_arrAt | apply XR_cons | apply XR_consG | apply XR_nil | apply cF_pure1 (by assumption) | apply cF_ev1 (by assumption) | apply cF_pure1 (mul_c _ _ bd1 bd1)) | with_reducible (first | apply X_regRS (id := 7) | apply X_regR (id := 7) | apply X_seqX (x := .seq (.region 7 _ false) _) | apply X_seqX (x := .seq (.seq (.region 7 _ false) _) _) | apply X_regRS (id := 9) | apply X_regR (id := 9) | apply X_seqX (x := .seq (.region 9 _ false) _) | apply X_seqX (x := .seq (.seq (.region 9 _ false) _) _) | apply X_regRS (id := 20) | apply X_regR (id := 20) | apply X_seqX (x := .seq (.region 20 _ false) _) | apply X_seqX (x := .seq (.seq (.region 20 _ false) _) _) | apply X_regRS (id := 22) | apply X_regR (id := 22) | apply X_seqX (x := .seq (.region 22 _ false) _) | apply X_seqX (x := .seq (.seq (.region 22 _ false) _) _)) | refine X_of _ ?_ | with_reducible (first | exact ⟨_, rfl⟩ | refine And.intro ?_ ?_ | intro _)) <;> try simp -implicitDefEqProofs (maxSteps := 1000000) (disch := first | exact dz1 | fail) only [vcR, vcT, Int.reduceBEq, Int.reduceBNe, Int.reduceEq, Int.reduceNe, Ab.part, Nat.reduceAdd, Nat.reduceMul, Nat.reduceLeDiff, Nat.reduceEqDiff, Nat.reduceBEq, Nat.reduceBNe, reduceCtorEq, ↓reduceIte, implies_true, forall_const, Int.reduceNeg, Int.reduceToNat, Int.reduceLT, Int.reduceLE, Int.reduceAdd, Int.reduceSub, Int.reduceMul, Int.reducePow, Nat.reducePow, true_or, Option.isNone_some, Option.isNone_none, vcXPb, Tryd.f104, List.toList_toArray, arr4_zero, nat4_set1, nat4_setL, nat4_set0, low4_lits,hX,nat8_tk]))
                · have : q = e := by omega
                  subst this
                  clear hr hpart hadr hbad hP hE
                  (repeat' ((first | with_reducible (first | apply XR_slice | apply XR_arrAt | apply XR_cons | apply XR_consG | apply XR_nil | apply cF_pure1 (by assumption) | apply cF_ev1 (by assumption) | apply cF_pure1 (mul_c _ _ bd1 bd1)) | with_reducible (first | apply X_regRS (id := 7) | apply X_regR (id := 7) | apply X_seqX (x := .seq (.region 7 _ false) _) | apply X_seqX (x := .seq (.seq (.region 7 _ false) _) _) | apply X_regRS (id := 9) | apply X_regR (id := 9) | apply X_seqX (x := .seq (.region 9 _ false) _) | apply X_seqX (x := .seq (.seq (.region 9 _ false) _) _) | apply X_regRS (id := 20) | apply X_regR (id := 20) | apply X_seqX (x := .seq (.region 20 _ false) _) | apply X_seqX (x := .seq (.seq (.region 20 _ false) _) _) | apply X_regRS (id := 22) | apply X_regR (id := 22) | apply X_seqX (x := .seq (.region 22 _ false) _) | apply X_seqX (x := .seq (.seq (.region 22 _ false) _) _)) | refine X_of _ ?_ | with_reducible (first | exact ⟨_, rfl⟩ | refine And.intro ?_ ?_ | intro _)) <;> try simp -implicitDefEqProofs (maxSteps := 1000000) (disch := first | exact dz1 | fail) only [vcR, vcT, Int.reduceBEq, Int.reduceBNe, Int.reduceEq, Int.reduceNe, Ab.part, Nat.reduceAdd, Nat.reduceMul, Nat.reduceLeDiff, Nat.reduceEqDiff, Nat.reduceBEq, Nat.reduceBNe, reduceCtorEq, ↓reduceIte, implies_true, forall_const, Int.reduceNeg, Int.reduceToNat, Int.reduceLT, Int.reduceLE, Int.reduceAdd, Int.reduceSub, Int.reduceMul, Int.reducePow, Nat.reducePow, true_or, Option.isNone_some, Option.isNone_none, vcXPb, Tryd.f104, List.toList_toArray, arr4_zero, nat4_set1, nat4_setL, nat4_set0]))
                  refine ⟨k + 1, by omega, ?_⟩
                  simp -implicitDefEqProofs (maxSteps := 1000000) (disch := first | exact dz1 | fail) only [vcR, vcT, Int.reduceBEq, Int.reduceBNe, Int.reduceEq, Int.reduceNe, Ab.part, Nat.reduceAdd, Nat.reduceMul, Nat.reduceLeDiff, Nat.reduceEqDiff, Nat.reduceBEq, Nat.reduceBNe, reduceCtorEq, ↓reduceIte, implies_true, forall_const, Int.reduceNeg, Int.reduceToNat, Int.reduceLT, Int.reduceLE, Int.reduceAdd, Int.reduceSub, Int.reduceMul, Int.reducePow, Nat.reducePow, true_or, Option.isNone_some, Option.isNone_none, vcXPb, Tryd.f104, List.toList_toArray, again_eq]
                  exact ⟨_, by rw [hnext], rfl⟩
            · have : k = i := by omega
              subst this
              rw [prS_fits h40 hbad hz hkT] at hr
              subst hr
              (repeat' ((first | with_reducible (first | apply XR_slice | apply XR_arrAt | apply XR_cons | apply XR_consG | apply XR_nil | apply cF_pure1 (by assumption) | apply cF_ev1 (by assumption) | apply cF_pure1 (mul_c _ _ bd1 bd1)) | with_reducible (first | apply X_regRS (id := 7) | apply X_regR (id := 7) | apply X_seqX (x := .seq (.region 7 _ false) _) | apply X_seqX (x := .seq (.seq (.region 7 _ false) _) _) | apply X_regRS (id := 9) | apply X_regR (id := 9) | apply X_seqX (x := .seq (.region 9 _ false) _) | apply X_seqX (x := .seq (.seq (.region 9 _ false) _) _) | apply X_regRS (id := 20) | apply X_regR (id := 20) | apply X_seqX (x := .seq (.region 20 _ false) _) | apply X_seqX (x := .seq (.seq (.region 20 _ false) _) _) | apply X_regRS (id := 22) | apply X_regR (id := 22) | apply X_seqX (x := .seq (.region 22 _ false) _) | apply X_seqX (x := .seq (.seq (.region 22 _ false) _) _)) | refine X_of _ ?_ | with_reducible (first | exact ⟨_, rfl⟩ | refine And.intro ?_ ?_ | intro _)) <;> try simp -implicitDefEqProofs (maxSteps := 1000000) (disch := first | exact dz1 | fail) only [vcR, vcT, Int.reduceBEq, Int.reduceBNe, Int.reduceEq, Int.reduceNe, Ab.part, Nat.reduceAdd, Nat.reduceMul, Nat.reduceLeDiff, Nat.reduceEqDiff, Nat.reduceBEq, Nat.reduceBNe, reduceCtorEq, ↓reduceIte, implies_true, forall_const, Int.reduceNeg, Int.reduceToNat, Int.reduceLT, Int.reduceLE, Int.reduceAdd, Int.reduceSub, Int.reduceMul, Int.reducePow, Nat.reducePow, true_or, Option.isNone_some, Option.isNone_none, vcXPb, Tryd.f104, List.toList_toArray, arr4_zero, nat4_set1, nat4_setL, nat4_set0]))
end Go.Proofs.YtdmcknmjdlghgaaDoor
