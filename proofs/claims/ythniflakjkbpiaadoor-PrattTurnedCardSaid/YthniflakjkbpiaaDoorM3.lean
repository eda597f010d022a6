/-
  What is made when it is first asked: the closure of mont.Mod.ready.
-/
import Derived.Test.YthniflakjkbpiaaDoorM2
import Derived.Test.YthniflakjkbpiaaDoorKM
namespace Go.Proofs.YthniflakjkbpiaaDoor
open Go Go.Ab
set_option linter.unusedSimpArgs false
set_option linter.unusedVariables false
set_option linter.defProp false
def vcXM3 := (And.intro (And.intro (And.intro (And.intro (And.intro (And.intro @modc_length (And.intro @modc_take @modc_sq)) (And.intro @modc_i (And.intro @modc_set7 @modc_spl))) (And.intro (And.intro @qm_call (And.intro @qm_move @qm_assign)) (And.intro @qm_pick (And.intro @qm_build @qm_load)))) (And.intro (And.intro (And.intro @qm_nilCheck (And.intro @qm_binOp @qm_unOp)) (And.intro @qm_convert (And.intro @qm_fieldAddr @qm_field))) (And.intro (And.intro @qm_indexAddr (And.intro @qm_index @qm_extract)) (And.intro (And.intro @maskOK_p @maskOK_v) (And.intro @xcallHM_value @xcallHM_len))))) (And.intro (And.intro (And.intro (And.intro @xcalledM_some (And.intro @xTrM_nil @xTrM_false)) (And.intro @xTrM_cons (And.intro @xAtM_assign @xAtM_move))) (And.intro (And.intro @xAtM_extract (And.intro @xAtM_alloc @xAtM_store)) (And.intro @famL_nil (And.intro @famL_cons @tf86_row)))) (And.intro (And.intro (And.intro @tf86_sz (And.intro @tf86_szO @tf86_f0)) (And.intro @tf86_f1 (And.intro @tf86_f2 @tf86_f3))) (And.intro (And.intro @tf86_known (And.intro @tf86_zero @tf86_p0)) (And.intro (And.intro @tf86_p1 @tf86_p2) (And.intro @tf86_p3 @tf86_slc)))))) (And.intro (And.intro (And.intro (And.intro (And.intro @tf99_row (And.intro @tf99_sz @tf99_szO)) (And.intro @tf99_arr (And.intro @tf99_known @tf99_eq))) (And.intro (And.intro @tf99_zero (And.intro @tf99_lits @tf99_place)) (And.intro @tf99_slc (And.intro @tf52_row @tf52_sz)))) (And.intro (And.intro (And.intro @tf52_szO (And.intro @tf52_slc @tf52_ptr)) (And.intro @tf52_zero (And.intro @tf101_row @tf101_sz))) (And.intro (And.intro @tf101_szO (And.intro @tf101_slc @tf101_ptr)) (And.intro (And.intro @tf101_zero @tf49_row) (And.intro @tf49_sz @tf49_szO))))) (And.intro (And.intro (And.intro (And.intro @tf49_slc (And.intro @tf49_arr @tf49_isSlc)) (And.intro @tf49_zero (And.intro @tf76_row @tf76_sz))) (And.intro (And.intro @tf76_szO (And.intro @tf76_slc @tf76_int)) (And.intro (And.intro @tf76_zero @tf21_row) (And.intro @tf21_sz @tf21_szO)))) (And.intro (And.intro (And.intro @tf21_slc (And.intro @tf21_int @tf21_zero)) (And.intro @ctxN_P (And.intro @ctxN_TM @bnd_none))) (And.intro (And.intro @bnd_int (And.intro @xslB_some @xslice_p)) (And.intro (And.intro @xslice_sl @xslice_v) (And.intro @xarrAt_sl @xarrAt_v)))))))
def vcQM3 := (And.intro (And.intro (And.intro (And.intro @okT_nil @okT_cons) (And.intro @okS_nil (And.intro @okS_cons @okA_nil))) (And.intro (And.intro @okA_cons (And.intro @and_self @true_and)) (And.intro @and_true (And.intro @okv_p @okv_sl)))) (And.intro (And.intro (And.intro @oks_s @oks_agg) (And.intro @oks_tup (And.intro @oka_s @oka_agg))) (And.intro (And.intro @okv_v (And.intro @nat4_okk @nat8_okk)) (And.intro @arr_okk (And.intro @iarr_okk @modc_okk)))))
def vcOM3 := (And.intro (And.intro (And.intro @okv_p (And.intro @okv_sl @oks_s)) (And.intro @oks_agg (And.intro @oks_tup @oka_s))) (And.intro (And.intro @oka_agg (And.intro @okv_v @nat4_okk)) (And.intro (And.intro @nat8_okk @arr_okk) (And.intro @iarr_okk @modc_okk))))
set_option maxHeartbeats 20000000
set_option maxRecDepth 100000

theorem lt_two (x y n : Nat) (hn : n = 512) (hx : x < 2 ^ 256) (hy : y < 2 ^ 256) : x * y < 2 ^ n := by
  have h : 2 ^ n = 2 ^ 256 * 2 ^ 256 := by
    have h1 : n = 256 + 256 := hn
    subst h1
    exact Nat.pow_add 2 256 256
  rw [h]
  exact Nat.mul_lt_mul_of_lt_of_le hx (Nat.le_of_lt hy) (Nat.two_pow_pos _)
theorem rem_x (x y m n : Nat) (hn : n = 512) (h : x * y < 2 ^ n) (hm : m < 2 ^ 256) (h0 : 0 < m) : PureC Tryd.prog 65 [.agg (nat8 (x * y)), .agg (nat4 m)] (.tup [.agg (nat4 (x * y % m)), .s (.v (.int .i64 0))]) :=
  rem_c (x * y) m (by subst hn; exact h) hm h0
theorem rem_y (x m n : Nat) (hn : n = 512) (h : x < 2 ^ n) (hm : m < 2 ^ 256) (h0 : 0 < m) : PureC Tryd.prog 65 [.agg (nat8 x), .agg (nat4 m)] (.tup [.agg (nat4 (x % m)), .s (.v (.int .i64 0))]) :=
  rem_c x m (by subst hn; exact h) hm h0
theorem nat8_257 : arr 8 (fun j => if j = 4 then 1 else 0) = nat8 (2 ^ 256) := by
  obtain ⟨n, hn⟩ : ∃ n, n = 257 := ⟨_, rfl⟩
  have h1 : 2 ^ 256 < 2 ^ n := Nat.pow_lt_pow_right (by decide) (by omega)
  refine arr_congr fun i hi => ?_
  by_cases h : i = 4
  · subst h; decide
  · rw [if_neg h]
    by_cases h2 : i < 4
    · have := wd_four_add 0 1 i h2
      rw [Nat.mul_one, Nat.zero_add, wd_zero] at this
      exact this.symm
    · exact (wd_big2 (2 ^ 256) i n h1 (by omega)).symm
theorem rem_257 (m : Nat) (hm : m < 2 ^ 256) (h0 : 0 < m) : PureC Tryd.prog 65 [.agg (nat8 (2 ^ 256)), .agg (nat4 m)] (.tup [.agg (nat4 (2 ^ 256 % m)), .s (.v (.int .i64 0))]) := by
  obtain ⟨n, hn⟩ : ∃ n, n = 512 := ⟨_, rfl⟩
  exact rem_y (2 ^ 256) m n hn (Nat.pow_lt_pow_right (by decide) (by omega)) hm h0
theorem modc_get0 (m d l i s : Nat) : (modc m d l i s)[0]? = some (.v (.int .u64 (wd m 0 : Int))) := rfl


theorem made_o (m : Nat) (hm : m < 2 ^ 256) (h0 : 0 < m) : OwnC Tryd.prog 64 [.s (.p 1 0)] [⟨86, modc m 0 1 0 0⟩, ⟨52, [.p 0 0]⟩] [⟨86, modc m 0 1 (mi m) (sqm m)⟩, ⟨52, [.p 0 0]⟩] (.tup []) := by
  have hr := rem_257 m hm h0
  have ho : 2 ^ 256 % m < 2 ^ 256 := Nat.lt_trans (Nat.mod_lt _ h0) hm
  obtain ⟨s, hs⟩ : ∃ s, sqm m = s := ⟨_, rfl⟩
  have hs2 := hs
  unfold sqm at hs2
  obtain ⟨o, hoe⟩ : ∃ o, 2 ^ 256 % m = o := ⟨_, rfl⟩
  rw [hoe] at hr ho hs2
  have hmu := mul_c o o ho ho
  have hrr := rem_x o o m 512 rfl (lt_two o o 512 rfl ho ho) hm h0
  obtain ⟨oo, hoo⟩ : ∃ x, o * o = x := ⟨_, rfl⟩
  rw [hoo] at hs2 hmu hrr
  rw [hs2] at hrr
  rw [hs]
  clear hoo hs2 hs hoe ho hm h0
  obtain ⟨y, hy⟩ : ∃ y, wd m 0 = y := ⟨_, rfl⟩
  have hyl := wd_lt m 0
  rw [hy] at hyl
  have hmi : mi m = (18446744073709551616 - nv y 6) % 18446744073709551616 := by rw [← hy]; rfl
  rw [hmi]
  clear hmi
  (refine own_of Tryd.func64 rfl (by simp only [List.length_cons, List.length_nil, List.map_cons, List.map_nil, List.nodup_cons, List.nodup_nil, List.mem_cons, Nat.reduceAdd, Nat.reduceEqDiff, or_false, not_false_eq_true, forall_eq_or_imp, forall_eq, or_self, Nat.reduceLT, Nat.reduceLeDiff, and_self, List.forall_mem_cons, List.not_mem_nil, false_implies, implies_true, and_true, true_and, vcOM3]) (by simp only [List.length_cons, List.length_nil, List.map_cons, List.map_nil, List.nodup_cons, List.nodup_nil, List.mem_cons, Nat.reduceAdd, Nat.reduceEqDiff, or_false, not_false_eq_true, forall_eq_or_imp, forall_eq, or_self, Nat.reduceLT, Nat.reduceLeDiff, and_self, List.forall_mem_cons, List.not_mem_nil, false_implies, implies_true, and_true, true_and, vcOM3]) (by simp only [List.length_cons, List.length_nil, List.map_cons, List.map_nil, List.nodup_cons, List.nodup_nil, List.mem_cons, Nat.reduceAdd, Nat.reduceEqDiff, or_false, not_false_eq_true, forall_eq_or_imp, forall_eq, or_self, Nat.reduceLT, Nat.reduceLeDiff, and_self, List.forall_mem_cons, List.not_mem_nil, false_implies, implies_true, and_true, true_and, vcOM3]) (by simp only [List.length_cons, List.length_nil, List.map_cons, List.map_nil, List.nodup_cons, List.nodup_nil, List.mem_cons, Nat.reduceAdd, Nat.reduceEqDiff, or_false, not_false_eq_true, forall_eq_or_imp, forall_eq, or_self, Nat.reduceLT, Nat.reduceLeDiff, and_self, List.forall_mem_cons, List.not_mem_nil, false_implies, implies_true, and_true, true_and, vcOM3]) rfl fun w0 β0 => ?_; simp only [List.length_cons, List.length_nil, Tryd.ntmps64, Nat.reduceAdd, Nat.reduceSub, List.replicate_succ, List.replicate_zero, List.cons_append, List.nil_append])
  (repeat (refine X_of _ ?_; simp -implicitDefEqProofs (maxSteps := 1000000) (disch := first | (simp only [nat4_length, nat8_length, arr_length, iarr_length, modc_length, List.length_cons, List.length_nil, Nat.reduceAdd]; done) | omega) only [vcR, vcT, Int.reduceBEq, Int.reduceBNe, Int.reduceEq, Int.reduceNe, Ab.part, Nat.reduceAdd, Nat.reduceMul, Nat.reduceLeDiff, Nat.reduceEqDiff, Nat.reduceBEq, Nat.reduceBNe, reduceCtorEq, ↓reduceIte, implies_true, forall_const, Int.reduceNeg, Int.reduceToNat, Int.reduceLT, Int.reduceLE, Int.reduceAdd, Int.reduceSub, Int.reduceMul, Int.reducePow, Nat.reducePow, true_or, vcXM3, Tryd.f64, List.toList_toArray]))
  refine X_loop (ι := Nat) (fun k => k ≤ 6) (fun k => 6 - k) [1, 4, 5, 6, 7, 8, 9, 10, 11, 12, 13, 14, 15, 16]
    (fun k => [(1, .s (.v (.int .u64 (nv y k : Nat)))), (4, .s (.v (.int .i64 (k : Nat))))])
    (fun k => []) 0 (shape_of fun i => ?_) (by decide) ?_ ?_
  · simp only [List.length_cons, List.length_nil, List.map_cons, List.map_nil, List.nodup_cons, List.nodup_nil, List.mem_cons, Nat.reduceAdd, Nat.reduceEqDiff, or_false, not_false_eq_true, forall_eq_or_imp, forall_eq, or_self, Nat.reduceLT, Nat.reduceLeDiff, and_self, List.forall_mem_cons, List.not_mem_nil, false_implies, implies_true, and_true, true_and, vcOM3]
  · simp -implicitDefEqProofs (maxSteps := 1000000) (disch := first | (simp only [nat4_length, nat8_length, arr_length, iarr_length, modc_length, List.length_cons, List.length_nil, Nat.reduceAdd]; done) | omega) only [vcR, vcT, Int.reduceBEq, Int.reduceBNe, Int.reduceEq, Int.reduceNe, Ab.part, Nat.reduceAdd, Nat.reduceMul, Nat.reduceLeDiff, Nat.reduceEqDiff, Nat.reduceBEq, Nat.reduceBNe, reduceCtorEq, ↓reduceIte, implies_true, forall_const, Int.reduceNeg, Int.reduceToNat, Int.reduceLT, Int.reduceLE, Int.reduceAdd, Int.reduceSub, Int.reduceMul, Int.reducePow, Nat.reducePow, true_or, vcXM3, Tryd.f64, List.toList_toArray, again_eq]
    simp [nv]
  · intro k us hk
    (repeat (refine X_of _ ?_; simp -implicitDefEqProofs (maxSteps := 1000000) (disch := first | (simp only [nat4_length, nat8_length, arr_length, iarr_length, modc_length, List.length_cons, List.length_nil, Nat.reduceAdd]; done) | omega) only [vcR, vcT, Int.reduceBEq, Int.reduceBNe, Int.reduceEq, Int.reduceNe, Ab.part, Nat.reduceAdd, Nat.reduceMul, Nat.reduceLeDiff, Nat.reduceEqDiff, Nat.reduceBEq, Nat.reduceBNe, reduceCtorEq, ↓reduceIte, implies_true, forall_const, Int.reduceNeg, Int.reduceToNat, Int.reduceLT, Int.reduceLE, Int.reduceAdd, Int.reduceSub, Int.reduceMul, Int.reducePow, Nat.reducePow, true_or, vcXM3, Tryd.f64, List.toList_toArray]))
    refine ⟨fun h => ?_, fun h => ?_⟩
    · have hx := nv_lt y k
      have hn : nv y (k + 1) = nvs y (nv y k) := rfl
      obtain ⟨x, hxe⟩ : ∃ x, nv y k = x := ⟨_, rfl⟩
      obtain ⟨z, hze⟩ : ∃ x, nv y (k + 1) = x := ⟨_, rfl⟩
      rw [hxe, hze] at hn
      rw [hxe] at hx
      rw [hxe]
      unfold nvs at hn
      have hu := Nat.mod_lt (y * x) (show 0 < 18446744073709551616 by decide)
      obtain ⟨u, hue⟩ : ∃ u, y * x % 18446744073709551616 = u := ⟨_, rfl⟩
      rw [hue] at hn hu
      have hw := w_two_sub u hu
      obtain ⟨v, hve⟩ : ∃ v, (2 + 18446744073709551616 - u) % 18446744073709551616 = v := ⟨_, rfl⟩
      rw [hve] at hn hw
      have hn' := hn.symm
      clear hx hu hyl hn hve
      (repeat (refine X_of _ ?_; simp -implicitDefEqProofs (maxSteps := 1000000) (disch := first | (simp only [nat4_length, nat8_length, arr_length, iarr_length, modc_length, List.length_cons, List.length_nil, Nat.reduceAdd]; done) | omega) only [vcR, vcT, Int.reduceBEq, Int.reduceBNe, Int.reduceEq, Int.reduceNe, Ab.part, Nat.reduceAdd, Nat.reduceMul, Nat.reduceLeDiff, Nat.reduceEqDiff, Nat.reduceBEq, Nat.reduceBNe, reduceCtorEq, ↓reduceIte, implies_true, forall_const, Int.reduceNeg, Int.reduceToNat, Int.reduceLT, Int.reduceLE, Int.reduceAdd, Int.reduceSub, Int.reduceMul, Int.reducePow, Nat.reducePow, true_or, vcXM3, Tryd.f64, List.toList_toArray, modc_get0,hy,w64m,hue,hw,hn']))
      refine ⟨k + 1, by omega, ?_⟩
      simp -implicitDefEqProofs (maxSteps := 1000000) (disch := first | (simp only [nat4_length, nat8_length, arr_length, iarr_length, modc_length, List.length_cons, List.length_nil, Nat.reduceAdd]; done) | omega) only [vcR, vcT, Int.reduceBEq, Int.reduceBNe, Int.reduceEq, Int.reduceNe, Ab.part, Nat.reduceAdd, Nat.reduceMul, Nat.reduceLeDiff, Nat.reduceEqDiff, Nat.reduceBEq, Nat.reduceBNe, reduceCtorEq, ↓reduceIte, implies_true, forall_const, Int.reduceNeg, Int.reduceToNat, Int.reduceLT, Int.reduceLE, Int.reduceAdd, Int.reduceSub, Int.reduceMul, Int.reducePow, Nat.reducePow, true_or, vcXM3, Tryd.f64, List.toList_toArray, again_eq,hze]
      exact ⟨_, rfl⟩
    · have : k = 6 := by omega
      subst this
      have hw := w_neg (nv y 6) (nv_lt y 6)
      rw [← Int.zero_sub] at hw
      obtain ⟨i, hi⟩ : ∃ i, (18446744073709551616 - nv y 6) % 18446744073709551616 = i := ⟨_, rfl⟩
      rw [hi] at hw
      rw [hi]
      clear hyl hk
      (repeat (refine X_of _ ?_; simp -implicitDefEqProofs (maxSteps := 1000000) (disch := first | (simp only [nat4_length, nat8_length, arr_length, iarr_length, modc_length, List.length_cons, List.length_nil, Nat.reduceAdd]; done) | omega) only [vcR, vcT, Int.reduceBEq, Int.reduceBNe, Int.reduceEq, Int.reduceNe, Ab.part, Nat.reduceAdd, Nat.reduceMul, Nat.reduceLeDiff, Nat.reduceEqDiff, Nat.reduceBEq, Nat.reduceBNe, reduceCtorEq, ↓reduceIte, implies_true, forall_const, Int.reduceNeg, Int.reduceToNat, Int.reduceLT, Int.reduceLE, Int.reduceAdd, Int.reduceSub, Int.reduceMul, Int.reducePow, Nat.reducePow, true_or, vcXM3, Tryd.f64, List.toList_toArray, hw,arr_setL,nat8_257]))
      (apply xcall_pure; kernel_rfl; exact PureC.cal (hr); try simp -implicitDefEqProofs (maxSteps := 1000000) (disch := first | (simp only [nat4_length, nat8_length, arr_length, iarr_length, modc_length, List.length_cons, List.length_nil, Nat.reduceAdd]; done) | omega) only [vcR, vcT, Int.reduceBEq, Int.reduceBNe, Int.reduceEq, Int.reduceNe, Ab.part, Nat.reduceAdd, Nat.reduceMul, Nat.reduceLeDiff, Nat.reduceEqDiff, Nat.reduceBEq, Nat.reduceBNe, reduceCtorEq, ↓reduceIte, implies_true, forall_const, Int.reduceNeg, Int.reduceToNat, Int.reduceLT, Int.reduceLE, Int.reduceAdd, Int.reduceSub, Int.reduceMul, Int.reducePow, Nat.reducePow, true_or, vcXM3, Tryd.f64, List.toList_toArray])
      (repeat (refine X_of _ ?_; simp -implicitDefEqProofs (maxSteps := 1000000) (disch := first | (simp only [nat4_length, nat8_length, arr_length, iarr_length, modc_length, List.length_cons, List.length_nil, Nat.reduceAdd]; done) | omega) only [vcR, vcT, Int.reduceBEq, Int.reduceBNe, Int.reduceEq, Int.reduceNe, Ab.part, Nat.reduceAdd, Nat.reduceMul, Nat.reduceLeDiff, Nat.reduceEqDiff, Nat.reduceBEq, Nat.reduceBNe, reduceCtorEq, ↓reduceIte, implies_true, forall_const, Int.reduceNeg, Int.reduceToNat, Int.reduceLT, Int.reduceLE, Int.reduceAdd, Int.reduceSub, Int.reduceMul, Int.reducePow, Nat.reducePow, true_or, vcXM3, Tryd.f64, List.toList_toArray]))
      (refine X_drawC 14 (by kernel_rfl) (by kernel_rfl) ?_; simp only [List.take_succ_cons, List.take_zero, List.drop_succ_cons, List.drop_zero])
      (repeat ((first | with_reducible refine XQ_slice ?_ | with_reducible refine XQ_arrAt ?_ | with_reducible refine XQ_cons ?_ | with_reducible refine XQ_consG ?_ | with_reducible refine XQ_nil ?_); try simp -implicitDefEqProofs (maxSteps := 1000000) (disch := first | (simp only [nat4_length, nat8_length, arr_length, iarr_length, modc_length, List.length_cons, List.length_nil, Nat.reduceAdd]; done) | omega) only [vcR, vcT, Int.reduceBEq, Int.reduceBNe, Int.reduceEq, Int.reduceNe, Ab.part, Nat.reduceAdd, Nat.reduceMul, Nat.reduceLeDiff, Nat.reduceEqDiff, Nat.reduceBEq, Nat.reduceBNe, reduceCtorEq, ↓reduceIte, implies_true, forall_const, Int.reduceNeg, Int.reduceToNat, Int.reduceLT, Int.reduceLE, Int.reduceAdd, Int.reduceSub, Int.reduceMul, Int.reducePow, Nat.reducePow, true_or, vcXM3, Tryd.f64, List.toList_toArray]))
      (apply xcallV_pure; kernel_rfl; exact PureC.cal (hmu); try simp -implicitDefEqProofs (maxSteps := 1000000) (disch := first | (simp only [nat4_length, nat8_length, arr_length, iarr_length, modc_length, List.length_cons, List.length_nil, Nat.reduceAdd]; done) | omega) only [vcR, vcT, Int.reduceBEq, Int.reduceBNe, Int.reduceEq, Int.reduceNe, Ab.part, Nat.reduceAdd, Nat.reduceMul, Nat.reduceLeDiff, Nat.reduceEqDiff, Nat.reduceBEq, Nat.reduceBNe, reduceCtorEq, ↓reduceIte, implies_true, forall_const, Int.reduceNeg, Int.reduceToNat, Int.reduceLT, Int.reduceLE, Int.reduceAdd, Int.reduceSub, Int.reduceMul, Int.reducePow, Nat.reducePow, true_or, vcXM3, Tryd.f64, List.toList_toArray])
      (repeat ((first | with_reducible refine XQ_slice ?_ | with_reducible refine XQ_arrAt ?_ | with_reducible refine XQ_cons ?_ | with_reducible refine XQ_consG ?_ | with_reducible refine XQ_nil ?_); try simp -implicitDefEqProofs (maxSteps := 1000000) (disch := first | (simp only [nat4_length, nat8_length, arr_length, iarr_length, modc_length, List.length_cons, List.length_nil, Nat.reduceAdd]; done) | omega) only [vcR, vcT, Int.reduceBEq, Int.reduceBNe, Int.reduceEq, Int.reduceNe, Ab.part, Nat.reduceAdd, Nat.reduceMul, Nat.reduceLeDiff, Nat.reduceEqDiff, Nat.reduceBEq, Nat.reduceBNe, reduceCtorEq, ↓reduceIte, implies_true, forall_const, Int.reduceNeg, Int.reduceToNat, Int.reduceLT, Int.reduceLE, Int.reduceAdd, Int.reduceSub, Int.reduceMul, Int.reducePow, Nat.reducePow, true_or, vcXM3, Tryd.f64, List.toList_toArray]))
      (apply xcallV_pure; kernel_rfl; exact PureC.cal (hrr); try simp -implicitDefEqProofs (maxSteps := 1000000) (disch := first | (simp only [nat4_length, nat8_length, arr_length, iarr_length, modc_length, List.length_cons, List.length_nil, Nat.reduceAdd]; done) | omega) only [vcR, vcT, Int.reduceBEq, Int.reduceBNe, Int.reduceEq, Int.reduceNe, Ab.part, Nat.reduceAdd, Nat.reduceMul, Nat.reduceLeDiff, Nat.reduceEqDiff, Nat.reduceBEq, Nat.reduceBNe, reduceCtorEq, ↓reduceIte, implies_true, forall_const, Int.reduceNeg, Int.reduceToNat, Int.reduceLT, Int.reduceLE, Int.reduceAdd, Int.reduceSub, Int.reduceMul, Int.reducePow, Nat.reducePow, true_or, vcXM3, Tryd.f64, List.toList_toArray])
      (repeat ((first | with_reducible refine XQ_slice ?_ | with_reducible refine XQ_arrAt ?_ | with_reducible refine XQ_cons ?_ | with_reducible refine XQ_consG ?_ | with_reducible refine XQ_nil ?_); try simp -implicitDefEqProofs (maxSteps := 1000000) (disch := first | (simp only [nat4_length, nat8_length, arr_length, iarr_length, modc_length, List.length_cons, List.length_nil, Nat.reduceAdd]; done) | omega) only [vcR, vcT, Int.reduceBEq, Int.reduceBNe, Int.reduceEq, Int.reduceNe, Ab.part, Nat.reduceAdd, Nat.reduceMul, Nat.reduceLeDiff, Nat.reduceEqDiff, Nat.reduceBEq, Nat.reduceBNe, reduceCtorEq, ↓reduceIte, implies_true, forall_const, Int.reduceNeg, Int.reduceToNat, Int.reduceLT, Int.reduceLE, Int.reduceAdd, Int.reduceSub, Int.reduceMul, Int.reducePow, Nat.reducePow, true_or, vcXM3, Tryd.f64, List.toList_toArray]))
      (try (first | with_reducible refine X_regRS ?_ | with_reducible refine X_regR ?_ | (with_reducible refine X_seqX ?_; with_reducible refine X_blockX ?_; with_reducible refine X_regR ?_))); (repeat ((first | with_reducible refine XR_make ?_ | with_reducible refine XR_append ?_ | with_reducible refine XR_copy ?_ | with_reducible refine XR_slice ?_ | with_reducible refine XR_arrAt ?_ | with_reducible refine XR_cons ?_ | with_reducible refine XR_consG ?_ | with_reducible refine XR_nil ?_); try simp -implicitDefEqProofs (maxSteps := 1000000) (disch := first | (simp only [nat4_length, nat8_length, arr_length, iarr_length, modc_length, List.length_cons, List.length_nil, Nat.reduceAdd]; done) | omega) only [vcR, vcT, Int.reduceBEq, Int.reduceBNe, Int.reduceEq, Int.reduceNe, Ab.part, Nat.reduceAdd, Nat.reduceMul, Nat.reduceLeDiff, Nat.reduceEqDiff, Nat.reduceBEq, Nat.reduceBNe, reduceCtorEq, ↓reduceIte, implies_true, forall_const, Int.reduceNeg, Int.reduceToNat, Int.reduceLT, Int.reduceLE, Int.reduceAdd, Int.reduceSub, Int.reduceMul, Int.reducePow, Nat.reducePow, true_or, vcXM3, Tryd.f64, List.toList_toArray]))
      exact ⟨_, rfl⟩
end Go.Proofs.YthniflakjkbpiaaDoor
