/-
  Texts laid together: Vc, L0.
-/
import Derived.Test.YthniflakjkbpiaaDoorKN
import Derived.Test.YthniflakjkbpiaaDoorProg
/-
  All rules by which simp walks, in one bundle.
-/
namespace Go.Ab
open Go
set_option linter.unusedSimpArgs false
set_option linter.unusedVariables false
set_option linter.defProp false

def vcR := (And.intro (And.intro (And.intro (And.intro (And.intro (And.intro (And.intro (And.intro @xCode_skip @xCode_label) (And.intro @xCode_region (And.intro @xCode_draw @xCode_seq))) (And.intro (And.intro @xCode_cond @xCode_block) (And.intro @xCode_loop (And.intro @xCode_exit @xCode_ret)))) (And.intro (And.intro (And.intro @xCode_scope @seqQ_normal) (And.intro @seqQ_ret (And.intro @seqQ_exit @loopQ_normal))) (And.intro (And.intro @loopQ_ret (And.intro @loopQ_exit @cutQ_normal)) (And.intro @cutQ_ret (And.intro @cutQ_exit @blockQ_normal))))) (And.intro (And.intro (And.intro (And.intro @blockQ_ret @blockQ_exit) (And.intro @scopeQ_normal (And.intro @scopeQ_ret @scopeQ_exit))) (And.intro (And.intro @xcond_bool (And.intro @xTr_nil @xTr_false)) (And.intro @xTr_cons (And.intro @xAt_some @xOps_nil)))) (And.intro (And.intro (And.intro @xOps_cons @xOps_consG) (And.intro @xHead_nil (And.intro @xHead_cons @xHead_consG))) (And.intro (And.intro @xguard_none (And.intro @xguard_some @xguardV_bool)) (And.intro @xguardV_tup (And.intro @xguardV_undef @putT_some)))))) (And.intro (And.intro (And.intro (And.intro (And.intro @putT_none @ev_tmp) (And.intro @ev_const (And.intro @ev_global @ev_func))) (And.intro (And.intro @app_none @app_new) (And.intro @app_put (And.intro @putH_zero @putH_succ)))) (And.intro (And.intro (And.intro @st_call @st_move) (And.intro @st_assign (And.intro @st_pick @st_alloc))) (And.intro (And.intro @st_box (And.intro @st_build @st_load)) (And.intro @st_store (And.intro @st_nilCheck @st_binOp))))) (And.intro (And.intro (And.intro (And.intro @st_unOp @st_convert) (And.intro @st_fieldAddr (And.intro @st_field @st_indexAddr))) (And.intro (And.intro @st_index (And.intro @st_extract @qt_call)) (And.intro @qt_move (And.intro @qt_assign @qt_pick)))) (And.intro (And.intro (And.intro @qt_build @qt_load) (And.intro @qt_nilCheck (And.intro @qt_binOp @qt_unOp))) (And.intro (And.intro @qt_convert (And.intro @qt_fieldAddr @qt_field)) (And.intro @qt_indexAddr (And.intro @qt_index @qt_extract))))))) (And.intro (And.intro (And.intro (And.intro (And.intro (And.intro @quietK_none @xpick_bool) (And.intro @pickT_true (And.intro @pickT_false @pickT_bool))) (And.intro (And.intro @xnew_some @xnewS_some) (And.intro @cellsOf_agg (And.intro @cellsOf_vagg @cellsOf_int)))) (And.intro (And.intro (And.intro @cellsOf_bool @cellsOf_string) (And.intro @cellsOf_slice (And.intro @cellsOf_pointer @cellsOf_p))) (And.intro (And.intro @cellsOf_sl (And.intro @xload_p @xload_v)) (And.intro @xpart_row (And.intro @xpart_one @xcell_some))))) (And.intro (And.intro (And.intro (And.intro @xstore_p @xput_some) (And.intro @splice_one (And.intro @oneAll_nil @oneAll_cons))) (And.intro (And.intro @one_int (And.intro @one_bool @one_slice)) (And.intro @one_pointer (And.intro @one_p @one_sl)))) (And.intro (And.intro (And.intro @xnil_p @xnil_v) (And.intro @xbin_int (And.intro @xbin_bool @xbin_agg))) (And.intro (And.intro @xbin_aggv (And.intro @xbin_vagg @xbin_pnil)) (And.intro @xbin_vnil (And.intro @xeqB_eql @xeqB_neq)))))) (And.intro (And.intro (And.intro (And.intro (And.intro @xeqR_eql @xeqR_neq) (And.intro @xeqA_false (And.intro @xeqA_true @xint_add))) (And.intro (And.intro @xint_sub @xint_mul) (And.intro @xint_quo (And.intro @xint_rem @xint_and)))) (And.intro (And.intro (And.intro @xint_or @xint_xor) (And.intro @xint_eql (And.intro @xint_neq @xint_lss))) (And.intro (And.intro @xint_leq (And.intro @xint_gtr @xint_geq)) (And.intro @xint_shl (And.intro @xint_shr @bits_u64))))) (And.intro (And.intro (And.intro (And.intro @bits_u32 @bits_i64) (And.intro @bits_u8 (And.intro @xun_neg @xun_not))) (And.intro (And.intro @xconv_int (And.intro @xfieldAddr_p @xfieldAddr_v)) (And.intro @xfield_some (And.intro @isAgg_agg @isAgg_vagg)))) (And.intro (And.intro (And.intro @xindexAddr_arr @xindexAddr_sl) (And.intro @xindexAddr_vsl (And.intro @xindex_arr @xextract_zero))) (And.intro (And.intro @xextract_succ (And.intro @tv_s @tv_agg)) (And.intro @xbuild_some (And.intro @fillA_nil @fillA_cons)))))))) (And.intro (And.intro (And.intro (And.intro (And.intro (And.intro (And.intro @fillB_some @setAt_one) (And.intro @xcall_value (And.intro @xcall_len @xcallH_value))) (And.intro (And.intro @xcallH_len @xfun_func) (And.intro @xcalled_some (And.intro @xcalledV_some @xlen_v)))) (And.intro (And.intro (And.intro @xlen_sl @retQ_normal) (And.intro @retQ_ret (And.intro @retV_one @retV_nil))) (And.intro (And.intro @retV_more (And.intro @resAll_nil @resAll_cons)) (And.intro @consO_some (And.intro @resOne_tmp @resOne_cell))))) (And.intro (And.intro (And.intro (And.intro @resAt_p @resCell_row) (And.intro @resCell_one (And.intro @toAV_s @toAV_agg))) (And.intro (And.intro @setMany_nil (And.intro @setMany_cons @junk_nil)) (And.intro @junk_cons (And.intro @setCells_nil @setCells_cons)))) (And.intro (And.intro (And.intro @agreeT_nil @agreeT_cons) (And.intro @agreeS_some (And.intro @agreeS_true @agreeS_false))) (And.intro (And.intro @lookup_cons (And.intro @prefix_ex @prefix_ex0)) (And.intro @ctx0_P (And.intro @ctx0_TM @wrap_i64_id)))))) (And.intro (And.intro (And.intro (And.intro (And.intro @tdiv_nn @tmod_nn) (And.intro @fdiv_pow (And.intro @Nat.add_one_sub_one @Nat.add_sub_cancel))) (And.intro (And.intro @Option.toList_some.{0} @castL) (And.intro @neL (And.intro @eqL @litsEq_nat4)))) (And.intro (And.intro (And.intro @fdivL @nat4_length) (And.intro @nat8_length (And.intro @nat4_one @nat8_one))) (And.intro (And.intro @nat4_get (And.intro @nat8_get @nat4_set)) (And.intro @nat8_set (And.intro @arr_get @arr_set))))) (And.intro (And.intro (And.intro (And.intro @iarr_get @iarr_set) (And.intro @or_self (And.intro @or_false @false_or))) (And.intro (And.intro @Nat.min_self (And.intro @addL @mulL)) (And.intro @mulL' (And.intro @divL @modL)))) (And.intro (And.intro (And.intro @subL @subL') (And.intro @addN (And.intro @mulN @subN))) (And.intro (And.intro @divN (And.intro @modN @divP)) (And.intro @mulP (And.intro @w64 @minL))))))) (And.intro (And.intro (And.intro (And.intro (And.intro (And.intro @minR @andOne) (And.intro @and255 (And.intro @neI @eqI))) (And.intro (And.intro @decide_true @decide_false) (And.intro @tlt_true (And.intro @tle_true @nlt_true)))) (And.intro (And.intro (And.intro @nle_true @tlt_false) (And.intro @tle_false (And.intro @nlt_false @nle_false))) (And.intro (And.intro @splice_whole (And.intro @arr_length @iarr_length)) (And.intro @arr_one (And.intro @iarr_one @List.lookup_nil.{0, 0}))))) (And.intro (And.intro (And.intro (And.intro @List.getD_cons_zero.{0} @List.getD_cons_succ.{0}) (And.intro @List.set_cons_zero.{0} (And.intro @List.set_cons_succ.{0} @List.getElem?_cons_zero.{0}))) (And.intro (And.intro @List.getElem?_cons_succ.{0} (And.intro @List.length_cons.{0} @List.length_nil.{0})) (And.intro @List.cons_append.{0} (And.intro @List.nil_append.{0} @List.map_cons.{0, 0})))) (And.intro (And.intro (And.intro @List.map_nil.{0, 0} @Option.map_some.{0, 0}) (And.intro @Option.map_none.{0, 0} (And.intro @Option.bind_some.{0, 0} @Option.bind_none.{0, 0}))) (And.intro (And.intro @List.getElem?_toArray.{0} (And.intro @List.contains_cons.{0} @List.contains_nil.{0})) (And.intro @Nat.zero_add (And.intro @Nat.add_zero @Nat.mul_one)))))) (And.intro (And.intro (And.intro (And.intro (And.intro @Nat.one_mul @beq_self_eq_true.{0}) (And.intro @Bool.or_true (And.intro @Bool.true_or @Bool.or_false))) (And.intro (And.intro @Bool.false_or @Bool.false_eq_true) (And.intro @Bool.true_eq_false (And.intro @Bool.not_true @Bool.not_false)))) (And.intro (And.intro (And.intro @true_and @and_true) (And.intro @not_false_eq_true (And.intro @not_true_eq_false @if_true.{1}))) (And.intro (And.intro @if_false.{1} (And.intro @false_implies @true_implies)) (And.intro @imp_self (And.intro @TV.s.injEq @TV.agg.injEq))))) (And.intro (And.intro (And.intro (And.intro @TV.tup.injEq @AV.s.injEq) (And.intro @AV.agg.injEq (And.intro @SV.v.injEq @SV.p.injEq))) (And.intro (And.intro @SV.sl.injEq (And.intro @Value.int.injEq @Value.bool.injEq)) (And.intro @List.cons.injEq.{0} (And.intro @AB.mk.injEq @and_self)))) (And.intro (And.intro (And.intro @decide_eq_true_eq @decide_eq_false_iff_not) (And.intro @Int.ofNat_eq_natCast (And.intro @Int.toNat_natCast @ne_eq.{1}))) (And.intro (And.intro @eq_self.{1} (And.intro @List.take_succ_cons.{0} @List.take_zero.{0})) (And.intro @List.drop_succ_cons.{0} (And.intro @List.drop_zero.{0} @List.tail_cons.{0})))))))))
end Go.Ab

namespace Go.Proofs.YthniflakjkbpiaaDoor
open Go Go.Ab
set_option linter.unusedSimpArgs false
set_option linter.unusedVariables false
set_option linter.defProp false
theorem tf26_row : rowOf Tryd.prog 26 = some true := by kernel_rfl
theorem tf26_sz : Tryd.prog.cellsOf 26 = 4 := by kernel_rfl
theorem tf26_szO : szO Tryd.prog 26 = some 4 := by kernel_rfl
theorem tf26_arr : arrOf Tryd.prog 26 = some (4, 24) := by kernel_rfl
theorem tf26_known : known Tryd.prog 26 = true := by kernel_rfl
theorem tf26_eq : eqTy Tryd.prog 26 = true := by kernel_rfl
theorem tf26_zero : zeroA Tryd.prog 26 = some (arr 4 fun _ => 0) := by kernel_rfl
theorem tf26_lits (f : Nat → Nat) (hf : ∀ i, i < 4 → f i < 18446744073709551616) : litsA Tryd.prog 26 (some (arr 4 f)) = some (lits 4 f) := litsA_arr (e := 24) (by kernel_rfl) (by kernel_rfl) (by kernel_rfl) (by kernel_rfl) hf
theorem tf26_litsN (a : Nat) : litsA Tryd.prog 26 (some (nat4 a)) = some (lits 4 (wd a)) := tf26_lits (wd a) fun _ _ => wd_lt a _
theorem tf26_u : Tryd.prog.underlying 26 = some (.array 4 24) := by kernel_rfl
theorem tf26_ce : Tryd.prog.cellsOf 24 = 1 := by kernel_rfl
theorem tf26_place (i : Nat) : placeOf Tryd.prog 26 i = some (i * 1, 1) := by simp only [placeOf, tf26_u, tf26_ce]
theorem tf26_slc : slcOf Tryd.prog 26 = none := by kernel_rfl
theorem tf25_row : rowOf Tryd.prog 25 = some true := by kernel_rfl
theorem tf25_sz : Tryd.prog.cellsOf 25 = 4 := by kernel_rfl
theorem tf25_szO : szO Tryd.prog 25 = some 4 := by kernel_rfl
theorem tf25_arr : arrOf Tryd.prog 25 = some (4, 24) := by kernel_rfl
theorem tf25_known : known Tryd.prog 25 = true := by kernel_rfl
theorem tf25_eq : eqTy Tryd.prog 25 = true := by kernel_rfl
theorem tf25_zero : zeroA Tryd.prog 25 = some (arr 4 fun _ => 0) := by kernel_rfl
theorem tf25_lits (f : Nat → Nat) (hf : ∀ i, i < 4 → f i < 18446744073709551616) : litsA Tryd.prog 25 (some (arr 4 f)) = some (lits 4 f) := litsA_arr (e := 24) (by kernel_rfl) (by kernel_rfl) (by kernel_rfl) (by kernel_rfl) hf
theorem tf25_litsN (a : Nat) : litsA Tryd.prog 25 (some (nat4 a)) = some (lits 4 (wd a)) := tf25_lits (wd a) fun _ _ => wd_lt a _
theorem tf25_u : Tryd.prog.underlying 25 = some (.array 4 24) := by kernel_rfl
theorem tf25_ce : Tryd.prog.cellsOf 24 = 1 := by kernel_rfl
theorem tf25_place (i : Nat) : placeOf Tryd.prog 25 i = some (i * 1, 1) := by simp only [placeOf, tf25_u, tf25_ce]
theorem tf25_slc : slcOf Tryd.prog 25 = none := by kernel_rfl
theorem tf24_row : rowOf Tryd.prog 24 = some false := by kernel_rfl
theorem tf24_sz : Tryd.prog.cellsOf 24 = 1 := by kernel_rfl
theorem tf24_szO : szO Tryd.prog 24 = some 1 := by kernel_rfl
theorem tf24_slc : slcOf Tryd.prog 24 = none := by kernel_rfl
theorem tf24_int : intKindOf Tryd.prog 24 = some .u64 := by kernel_rfl
theorem tf24_zero : zeroA Tryd.prog 24 = some [.v (.int .u64 0)] := by kernel_rfl
theorem tf3_row : rowOf Tryd.prog 3 = some false := by kernel_rfl
theorem tf3_sz : Tryd.prog.cellsOf 3 = 1 := by kernel_rfl
theorem tf3_szO : szO Tryd.prog 3 = some 1 := by kernel_rfl
theorem tf3_slc : slcOf Tryd.prog 3 = none := by kernel_rfl
theorem tf3_int : intKindOf Tryd.prog 3 = some .i64 := by kernel_rfl
theorem tf3_zero : zeroA Tryd.prog 3 = some [.v (.int .i64 0)] := by kernel_rfl
theorem tf4_row : rowOf Tryd.prog 4 = some false := by kernel_rfl
theorem tf4_sz : Tryd.prog.cellsOf 4 = 1 := by kernel_rfl
theorem tf4_szO : szO Tryd.prog 4 = some 1 := by kernel_rfl
theorem tf4_slc : slcOf Tryd.prog 4 = none := by kernel_rfl
theorem tf4_bool : isBoolT Tryd.prog 4 = true := by kernel_rfl
theorem tf4_zero : zeroA Tryd.prog 4 = some [.v (.bool false)] := by kernel_rfl
theorem tf47_row : rowOf Tryd.prog 47 = some true := by kernel_rfl
theorem tf47_sz : Tryd.prog.cellsOf 47 = 8 := by kernel_rfl
theorem tf47_szO : szO Tryd.prog 47 = some 8 := by kernel_rfl
theorem tf47_arr : arrOf Tryd.prog 47 = some (8, 24) := by kernel_rfl
theorem tf47_known : known Tryd.prog 47 = true := by kernel_rfl
theorem tf47_eq : eqTy Tryd.prog 47 = true := by kernel_rfl
theorem tf47_zero : zeroA Tryd.prog 47 = some (arr 8 fun _ => 0) := by kernel_rfl
theorem tf47_lits (f : Nat → Nat) (hf : ∀ i, i < 8 → f i < 18446744073709551616) : litsA Tryd.prog 47 (some (arr 8 f)) = some (lits 8 f) := litsA_arr (e := 24) (by kernel_rfl) (by kernel_rfl) (by kernel_rfl) (by kernel_rfl) hf
theorem tf47_litsN (a : Nat) : litsA Tryd.prog 47 (some (nat8 a)) = some (lits 8 (wd a)) := tf47_lits (wd a) fun _ _ => wd_lt a _
theorem tf47_u : Tryd.prog.underlying 47 = some (.array 8 24) := by kernel_rfl
theorem tf47_ce : Tryd.prog.cellsOf 24 = 1 := by kernel_rfl
theorem tf47_place (i : Nat) : placeOf Tryd.prog 47 i = some (i * 1, 1) := by simp only [placeOf, tf47_u, tf47_ce]
theorem tf47_slc : slcOf Tryd.prog 47 = none := by kernel_rfl
theorem tf27_row : rowOf Tryd.prog 27 = some false := by kernel_rfl
theorem tf27_sz : Tryd.prog.cellsOf 27 = 1 := by kernel_rfl
theorem tf27_szO : szO Tryd.prog 27 = some 1 := by kernel_rfl
theorem tf27_slc : slcOf Tryd.prog 27 = none := by kernel_rfl
theorem tf27_int : intKindOf Tryd.prog 27 = some .i64 := by kernel_rfl
theorem tf27_zero : zeroA Tryd.prog 27 = some [.v (.int .i64 0)] := by kernel_rfl
theorem tf70_row : rowOf Tryd.prog 70 = some true := by kernel_rfl
theorem tf70_sz : Tryd.prog.cellsOf 70 = 64 := by kernel_rfl
theorem tf70_szO : szO Tryd.prog 70 = some 64 := by kernel_rfl
theorem tf70_arr : arrOf Tryd.prog 70 = some (64, 3) := by kernel_rfl
theorem tf70_known : known Tryd.prog 70 = true := by kernel_rfl
theorem tf70_eq : eqTy Tryd.prog 70 = true := by kernel_rfl
theorem tf70_zero : zeroA Tryd.prog 70 = some (iarr 64 fun _ => 0) := by kernel_rfl
theorem tf70_u : Tryd.prog.underlying 70 = some (.array 64 3) := by kernel_rfl
theorem tf70_ce : Tryd.prog.cellsOf 3 = 1 := by kernel_rfl
theorem tf70_place (i : Nat) : placeOf Tryd.prog 70 i = some (i * 1, 1) := by simp only [placeOf, tf70_u, tf70_ce]
theorem tf70_slc : slcOf Tryd.prog 70 = none := by kernel_rfl
theorem tf5_row : rowOf Tryd.prog 5 = some false := by kernel_rfl
theorem tf5_sz : Tryd.prog.cellsOf 5 = 1 := by kernel_rfl
theorem tf5_szO : szO Tryd.prog 5 = some 1 := by kernel_rfl
theorem tf5_slc : slcOf Tryd.prog 5 = none := by kernel_rfl
theorem tf5_int : intKindOf Tryd.prog 5 = some .u8 := by kernel_rfl
theorem tf5_zero : zeroA Tryd.prog 5 = some [.v (.int .u8 0)] := by kernel_rfl
def vcT := (And.intro (And.intro (And.intro (And.intro (And.intro (And.intro @tf26_row @tf26_sz) (And.intro @tf26_szO @tf26_arr)) (And.intro (And.intro @tf26_known @tf26_eq) (And.intro @tf26_zero (And.intro @tf26_lits @tf26_litsN)))) (And.intro (And.intro (And.intro @tf26_place @tf26_slc) (And.intro @tf25_row @tf25_sz)) (And.intro (And.intro @tf25_szO @tf25_arr) (And.intro @tf25_known (And.intro @tf25_eq @tf25_zero))))) (And.intro (And.intro (And.intro (And.intro @tf25_lits @tf25_litsN) (And.intro @tf25_place @tf25_slc)) (And.intro (And.intro @tf24_row @tf24_sz) (And.intro @tf24_szO (And.intro @tf24_slc @tf24_int)))) (And.intro (And.intro (And.intro @tf24_zero @tf3_row) (And.intro @tf3_sz @tf3_szO)) (And.intro (And.intro @tf3_slc @tf3_int) (And.intro @tf3_zero (And.intro @tf4_row @tf4_sz)))))) (And.intro (And.intro (And.intro (And.intro (And.intro @tf4_szO @tf4_slc) (And.intro @tf4_bool @tf4_zero)) (And.intro (And.intro @tf47_row @tf47_sz) (And.intro @tf47_szO (And.intro @tf47_arr @tf47_known)))) (And.intro (And.intro (And.intro @tf47_eq @tf47_zero) (And.intro @tf47_lits @tf47_litsN)) (And.intro (And.intro @tf47_place @tf47_slc) (And.intro @tf27_row (And.intro @tf27_sz @tf27_szO))))) (And.intro (And.intro (And.intro (And.intro @tf27_slc @tf27_int) (And.intro @tf27_zero @tf70_row)) (And.intro (And.intro @tf70_sz @tf70_szO) (And.intro @tf70_arr (And.intro @tf70_known @tf70_eq)))) (And.intro (And.intro (And.intro @tf70_zero @tf70_place) (And.intro @tf70_slc @tf5_row)) (And.intro (And.intro @tf5_sz @tf5_szO) (And.intro @tf5_slc (And.intro @tf5_int @tf5_zero)))))))
end Go.Proofs.YthniflakjkbpiaaDoor
