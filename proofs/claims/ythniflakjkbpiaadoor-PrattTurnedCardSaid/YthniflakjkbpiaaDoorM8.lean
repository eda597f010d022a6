/-
  Package mont's statements: they answer true.
-/
import Derived.Test.YthniflakjkbpiaaDoorM7
import Derived.Test.YthniflakjkbpiaaDoorKM
import Derived.Test.YthniflakjkbpiaaDoorKR
namespace Go.Proofs.YthniflakjkbpiaaDoor
open Go Go.Ab
set_option linter.unusedSimpArgs false
set_option linter.unusedVariables false
set_option linter.defProp false
def vcXM8 := (And.intro (And.intro (And.intro (And.intro (And.intro (And.intro (And.intro @modc_length @modc_take) (And.intro @modc_sq @modc_i)) (And.intro (And.intro @modS_length @qm_call) (And.intro @qm_move @qm_assign))) (And.intro (And.intro (And.intro @qm_pick @qm_build) (And.intro @qm_load @qm_nilCheck)) (And.intro (And.intro @qm_binOp @qm_unOp) (And.intro @qm_convert (And.intro @qm_fieldAddr @qm_field))))) (And.intro (And.intro (And.intro (And.intro @qm_indexAddr @qm_index) (And.intro @qm_extract @maskOK_p)) (And.intro (And.intro @maskOK_v @xcallHM_value) (And.intro @xcallHM_len (And.intro @xcalledM_some @xTrM_nil)))) (And.intro (And.intro (And.intro @xTrM_false @xTrM_cons) (And.intro @xAtM_assign @xAtM_move)) (And.intro (And.intro @xAtM_extract @xAtM_alloc) (And.intro @xAtM_store (And.intro @famL_nil @famL_cons)))))) (And.intro (And.intro (And.intro (And.intro (And.intro @tf86_row @tf86_sz) (And.intro @tf86_szO @tf86_f0)) (And.intro (And.intro @tf86_f1 @tf86_f2) (And.intro @tf86_f3 @tf86_known))) (And.intro (And.intro (And.intro @tf86_zero @tf86_p0) (And.intro @tf86_p1 @tf86_p2)) (And.intro (And.intro @tf86_p3 @tf86_slc) (And.intro @tf99_row (And.intro @tf99_sz @tf99_szO))))) (And.intro (And.intro (And.intro (And.intro @tf99_arr @tf99_known) (And.intro @tf99_eq @tf99_zero)) (And.intro (And.intro @tf99_lits @tf99_place) (And.intro @tf99_slc (And.intro @tf52_row @tf52_sz)))) (And.intro (And.intro (And.intro @tf52_szO @tf52_slc) (And.intro @tf52_ptr @tf52_zero)) (And.intro (And.intro @tf101_row @tf101_sz) (And.intro @tf101_szO (And.intro @tf101_slc @tf101_ptr))))))) (And.intro (And.intro (And.intro (And.intro (And.intro (And.intro @tf101_zero @tf49_row) (And.intro @tf49_sz @tf49_szO)) (And.intro (And.intro @tf49_slc @tf49_arr) (And.intro @tf49_isSlc @tf49_zero))) (And.intro (And.intro (And.intro @tf76_row @tf76_sz) (And.intro @tf76_szO @tf76_slc)) (And.intro (And.intro @tf76_int @tf76_zero) (And.intro @tf21_row (And.intro @tf21_sz @tf21_szO))))) (And.intro (And.intro (And.intro (And.intro @tf21_slc @tf21_int) (And.intro @tf21_zero @ctxN_P)) (And.intro (And.intro @ctxN_TM @bnd_none) (And.intro @bnd_int (And.intro @xslB_some @xslice_p)))) (And.intro (And.intro (And.intro @xslice_sl @xslice_v) (And.intro @xarrAt_sl @xarrAt_v)) (And.intro (And.intro @ctxE_P @ctxE_TM) (And.intro @modEvo_TM (And.intro @after_P @after_TM)))))) (And.intro (And.intro (And.intro (And.intro (And.intro @fz_v @fz_p) (And.intro @fz_sl @fz_agg)) (And.intro (And.intro @fz_tup @fz_undef) (And.intro @avfz_v @avfz_p))) (And.intro (And.intro (And.intro @avfz_sl @avfz_agg) (And.intro @svfz_v @svfz_p)) (And.intro (And.intro @svfz_sl @fzP_none) (And.intro @fzP_some (And.intro @fzS_none @fzS_some))))) (And.intro (And.intro (And.intro (And.intro @fz_nat4 @fz_arr) (And.intro @fz_iarr @fzB_some)) (And.intro (And.intro @fzH_nil @fzH_cons) (And.intro @posL_nil (And.intro @posL_cons @ren_v)))) (And.intro (And.intro (And.intro @ren_p @ren_sl) (And.intro @ren_undef @ren_nat4)) (And.intro (And.intro @ren_tupE @ren_tup) (And.intro @avren_v (And.intro @avren_p @avren_nat4))))))))
def vcQM8 := (And.intro (And.intro (And.intro (And.intro @okT_nil @okT_cons) (And.intro @okS_nil (And.intro @okS_cons @okA_nil))) (And.intro (And.intro @okA_cons (And.intro @and_self @true_and)) (And.intro @and_true (And.intro @okv_p @okv_sl)))) (And.intro (And.intro (And.intro @oks_s (And.intro @oks_agg @oks_tup)) (And.intro @oka_s (And.intro @oka_agg @okv_v))) (And.intro (And.intro @nat4_okk (And.intro @nat8_okk @arr_okk)) (And.intro @iarr_okk (And.intro @modc_okk @modS_okk)))))
def vcOM8 := (And.intro (And.intro (And.intro @okv_p (And.intro @okv_sl @oks_s)) (And.intro (And.intro @oks_agg @oks_tup) (And.intro @oka_s @oka_agg))) (And.intro (And.intro @okv_v (And.intro @nat4_okk @nat8_okk)) (And.intro (And.intro @arr_okk @iarr_okk) (And.intro @modc_okk @modS_okk))))
set_option maxHeartbeats 20000000
set_option maxRecDepth 100000

theorem msub_add {m : Nat} (h : OddM m) (a b : Nat) : (msub m a b + b) % m = (a + 0) % m := by
  have hb := Nat.mod_lt b h.pos
  unfold msub
  rw [Nat.mod_add_mod]
  have e : (a % m + (m - b % m) + b) % m = (a % m + (m - b % m) + b % m) % m := cg_add rfl (cg_mod _ _).symm
  rw [e, show a % m + (m - b % m) + b % m = a % m + m by omega, Nat.add_mod_right, cg_mod, Nat.add_zero]
theorem msub_neg {m : Nat} (h : OddM m) (a b : Nat) : (msub m a b + msub m b a) % m = 0 := by
  have ha := Nat.mod_lt a h.pos
  have hb := Nat.mod_lt b h.pos
  unfold msub
  rw [← Nat.add_mod, show a % m + (m - b % m) + (b % m + (m - a % m)) = m + m by omega, Nat.add_mod_right, Nat.mod_self]
theorem mo_mo {m : Nat} (h : OddM m) (x y : Nat) : mo m (mo m (x * y)) = x * mo m (mo m y) % m := by
  rw [mo_mul h x y, mo_mod, mo_mul h x (mo m y)]
theorem mo_assoc {m : Nat} (h : OddM m) (a b c : Nat) : mo m (mo m (a * b) * c) = mo m (a * mo m (b * c)) := by
  rw [Nat.mul_comm (mo m (a * b)) c, mo_mul h c (mo m (a * b)), mo_mul h a (mo m (b * c)), mo_mo h a b, Nat.mul_comm b c, mo_mo h c b]
  have e1 : c * (a * mo m (mo m b) % m) % m = c * (a * mo m (mo m b)) % m := cg_mul rfl (cg_mod _ _)
  have e2 : a * (c * mo m (mo m b) % m) % m = a * (c * mo m (mo m b)) % m := cg_mul rfl (cg_mod _ _)
  rw [e1, e2, Nat.mul_left_comm]
theorem mul_add_mod (m a b c : Nat) : a * ((b + c) % m) % m = (a * b % m + a * c % m) % m := by
  have e : a * ((b + c) % m) % m = a * (b + c) % m := cg_mul rfl (cg_mod _ _)
  rw [e, Nat.mul_add, Nat.add_mod]
theorem mul_assoc_mod (m a b c : Nat) : a * (b * c % m) % m = a * b % m * c % m := by
  have e : a * (b * c % m) % m = a * (b * c) % m := cg_mul rfl (cg_mod _ _)
  have e2 : a * b % m * c % m = a * b * c % m := cg_mul (cg_mod _ _) rfl
  rw [e, e2, Nat.mul_assoc]

end Go.Proofs.YthniflakjkbpiaaDoor
