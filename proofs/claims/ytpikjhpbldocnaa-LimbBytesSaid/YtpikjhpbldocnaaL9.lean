import Derived.Test.YtpikjhpbldocnaaL8
import Derived.Test.YtpikjhpbldocnaaNm3
namespace Go.Proofs.Ytpikjhpbldocnaa
open Go Go.Ab
set_option linter.unusedSimpArgs false
set_option linter.unusedVariables false
set_option maxHeartbeats 20000000


theorem most_c : PureC Try.prog 37 [] (.agg (nat4 (2 ^ 256 - 1))) := by
  refine pureC_of Try.func37 rfl (by simp only [List.length_cons, List.length_nil, List.map_cons, List.map_nil, List.nodup_cons, List.nodup_nil, List.mem_cons, Nat.reduceAdd, Nat.reduceEqDiff, or_false, not_false_eq_true, forall_eq_or_imp, forall_eq, or_self, okv_p, okv_sl, Nat.reduceLT, Nat.reduceLeDiff, and_self, List.forall_mem_cons, List.not_mem_nil, false_implies, implies_true, and_true, true_and, oks_s, oks_agg, oks_tup, oka_s, oka_agg, okv_v, nat4_okk, nat8_okk, arr_okk, iarr_okk]) (by simp only [List.length_cons, List.length_nil, List.map_cons, List.map_nil, List.nodup_cons, List.nodup_nil, List.mem_cons, Nat.reduceAdd, Nat.reduceEqDiff, or_false, not_false_eq_true, forall_eq_or_imp, forall_eq, or_self, okv_p, okv_sl, Nat.reduceLT, Nat.reduceLeDiff, and_self, List.forall_mem_cons, List.not_mem_nil, false_implies, implies_true, and_true, true_and, oks_s, oks_agg, oks_tup, oka_s, oka_agg, okv_v, nat4_okk, nat8_okk, arr_okk, iarr_okk]) fun w => ?_
  simp only [List.length_cons, List.length_nil, Try.ntmps37, Nat.reduceAdd, Nat.reduceSub, List.replicate_succ, List.replicate_zero, List.cons_append, List.nil_append]
  (repeat (refine X_of _ ?_; simp -implicitDefEqProofs (maxSteps := 1000000) (disch := first | (simp only [nat4_length, nat8_length, arr_length, iarr_length, List.length_cons, List.length_nil, Nat.reduceAdd]; done) | omega) only [vcR, vcT, Int.reduceBEq, Int.reduceBNe, Int.reduceEq, Int.reduceNe, Ab.part, Nat.reduceAdd, Nat.reduceMul, Nat.reduceLeDiff, Nat.reduceEqDiff, Nat.reduceBEq, Nat.reduceBNe, reduceCtorEq, ↓reduceIte, implies_true, forall_const, Int.reduceNeg, Int.reduceToNat, Int.reduceLT, Int.reduceLE, Int.reduceAdd, Int.reduceSub, Int.reduceMul, Int.reducePow, Nat.reducePow, Try.f37, List.toList_toArray]))
  refine X_loop (ι := Nat) (fun k => k ≤ 4) (fun k => 4 - k) [2, 4, 5, 6, 7, 8, 9]
    (fun k => [(2, .s (.v (.int .i64 (k : Nat))))])
    (fun k => [(1, arr 4 fun i => if i < k then 18446744073709551615 else 0)]) 0 (shape_of fun i => ?_) (by decide) ?_ ?_
  · simp only [List.length_cons, List.length_nil, List.map_cons, List.map_nil, List.nodup_cons, List.nodup_nil, List.mem_cons, Nat.reduceAdd, Nat.reduceEqDiff, or_false, not_false_eq_true, forall_eq_or_imp, forall_eq, or_self, okv_p, okv_sl, Nat.reduceLT, Nat.reduceLeDiff, and_self, List.forall_mem_cons, List.not_mem_nil, false_implies, implies_true, and_true, true_and, oks_s, oks_agg, oks_tup, oka_s, oka_agg, okv_v, nat4_okk, nat8_okk, arr_okk, iarr_okk]
  · simp -implicitDefEqProofs (maxSteps := 1000000) (disch := first | (simp only [nat4_length, nat8_length, arr_length, iarr_length, List.length_cons, List.length_nil, Nat.reduceAdd]; done) | omega) only [vcR, vcT, Int.reduceBEq, Int.reduceBNe, Int.reduceEq, Int.reduceNe, Ab.part, Nat.reduceAdd, Nat.reduceMul, Nat.reduceLeDiff, Nat.reduceEqDiff, Nat.reduceBEq, Nat.reduceBNe, reduceCtorEq, ↓reduceIte, implies_true, forall_const, Int.reduceNeg, Int.reduceToNat, Int.reduceLT, Int.reduceLE, Int.reduceAdd, Int.reduceSub, Int.reduceMul, Int.reducePow, Nat.reducePow, Try.f37, List.toList_toArray, again_eq]
    simp
  · intro k us hk
    (repeat (refine X_of _ ?_; simp -implicitDefEqProofs (maxSteps := 1000000) (disch := first | (simp only [nat4_length, nat8_length, arr_length, iarr_length, List.length_cons, List.length_nil, Nat.reduceAdd]; done) | omega) only [vcR, vcT, Int.reduceBEq, Int.reduceBNe, Int.reduceEq, Int.reduceNe, Ab.part, Nat.reduceAdd, Nat.reduceMul, Nat.reduceLeDiff, Nat.reduceEqDiff, Nat.reduceBEq, Nat.reduceBNe, reduceCtorEq, ↓reduceIte, implies_true, forall_const, Int.reduceNeg, Int.reduceToNat, Int.reduceLT, Int.reduceLE, Int.reduceAdd, Int.reduceSub, Int.reduceMul, Int.reducePow, Nat.reducePow, Try.f37, List.toList_toArray, arr_setL]))
    refine ⟨fun h => ?_, fun h => ?_⟩
    · (repeat (refine X_of _ ?_; simp -implicitDefEqProofs (maxSteps := 1000000) (disch := first | (simp only [nat4_length, nat8_length, arr_length, iarr_length, List.length_cons, List.length_nil, Nat.reduceAdd]; done) | omega) only [vcR, vcT, Int.reduceBEq, Int.reduceBNe, Int.reduceEq, Int.reduceNe, Ab.part, Nat.reduceAdd, Nat.reduceMul, Nat.reduceLeDiff, Nat.reduceEqDiff, Nat.reduceBEq, Nat.reduceBNe, reduceCtorEq, ↓reduceIte, implies_true, forall_const, Int.reduceNeg, Int.reduceToNat, Int.reduceLT, Int.reduceLE, Int.reduceAdd, Int.reduceSub, Int.reduceMul, Int.reducePow, Nat.reducePow, Try.f37, List.toList_toArray, arr_setL]))
      refine ⟨k + 1, by omega, ?_⟩
      simp -implicitDefEqProofs (maxSteps := 1000000) (disch := first | (simp only [nat4_length, nat8_length, arr_length, iarr_length, List.length_cons, List.length_nil, Nat.reduceAdd]; done) | omega) only [vcR, vcT, Int.reduceBEq, Int.reduceBNe, Int.reduceEq, Int.reduceNe, Ab.part, Nat.reduceAdd, Nat.reduceMul, Nat.reduceLeDiff, Nat.reduceEqDiff, Nat.reduceBEq, Nat.reduceBNe, reduceCtorEq, ↓reduceIte, implies_true, forall_const, Int.reduceNeg, Int.reduceToNat, Int.reduceLT, Int.reduceLE, Int.reduceAdd, Int.reduceSub, Int.reduceMul, Int.reducePow, Nat.reducePow, Try.f37, List.toList_toArray, again_eq]
      exact ⟨_, arr_congr fun i hi => upd_word (f := fun _ => 18446744073709551615) rfl, rfl⟩
    · (repeat (refine X_of _ ?_; simp -implicitDefEqProofs (maxSteps := 1000000) (disch := first | (simp only [nat4_length, nat8_length, arr_length, iarr_length, List.length_cons, List.length_nil, Nat.reduceAdd]; done) | omega) only [vcR, vcT, Int.reduceBEq, Int.reduceBNe, Int.reduceEq, Int.reduceNe, Ab.part, Nat.reduceAdd, Nat.reduceMul, Nat.reduceLeDiff, Nat.reduceEqDiff, Nat.reduceBEq, Nat.reduceBNe, reduceCtorEq, ↓reduceIte, implies_true, forall_const, Int.reduceNeg, Int.reduceToNat, Int.reduceLT, Int.reduceLE, Int.reduceAdd, Int.reduceSub, Int.reduceMul, Int.reducePow, Nat.reducePow, Try.f37, List.toList_toArray]))
      have : k = 4 := by omega
      subst this
      refine arr_congr fun i hi => ?_
      rw [if_pos hi]
      have : i = 0 ∨ i = 1 ∨ i = 2 ∨ i = 3 := by omega
      rcases this with rfl | rfl | rfl | rfl <;> decide


theorem rbit_c (a : Nat) (i : Int) : PureC Try.prog 16 [.agg (nat4 a), .s (.v (.int .i64 i))] (.s (.v (.int .u64 ((if i < 0 ∨ 256 ≤ i then 0 else a / 2 ^ i.toNat % 2 : Nat) : Int)))) := by
  refine pureC_of Try.func16 rfl (by simp only [List.length_cons, List.length_nil, List.map_cons, List.map_nil, List.nodup_cons, List.nodup_nil, List.mem_cons, Nat.reduceAdd, Nat.reduceEqDiff, or_false, not_false_eq_true, forall_eq_or_imp, forall_eq, or_self, okv_p, okv_sl, Nat.reduceLT, Nat.reduceLeDiff, and_self, List.forall_mem_cons, List.not_mem_nil, false_implies, implies_true, and_true, true_and, oks_s, oks_agg, oks_tup, oka_s, oka_agg, okv_v, nat4_okk, nat8_okk, arr_okk, iarr_okk]) (by simp only [List.length_cons, List.length_nil, List.map_cons, List.map_nil, List.nodup_cons, List.nodup_nil, List.mem_cons, Nat.reduceAdd, Nat.reduceEqDiff, or_false, not_false_eq_true, forall_eq_or_imp, forall_eq, or_self, okv_p, okv_sl, Nat.reduceLT, Nat.reduceLeDiff, and_self, List.forall_mem_cons, List.not_mem_nil, false_implies, implies_true, and_true, true_and, oks_s, oks_agg, oks_tup, oka_s, oka_agg, okv_v, nat4_okk, nat8_okk, arr_okk, iarr_okk]) fun w => ?_
  simp only [List.length_cons, List.length_nil, Try.ntmps16, Nat.reduceAdd, Nat.reduceSub, List.replicate_succ, List.replicate_zero, List.cons_append, List.nil_append]
  by_cases h : i < 0
  · (repeat (refine X_of _ ?_; simp -implicitDefEqProofs (maxSteps := 1000000) (disch := first | (simp only [nat4_length, nat8_length, arr_length, iarr_length, List.length_cons, List.length_nil, Nat.reduceAdd]; done) | omega) only [vcR, vcT, Int.reduceBEq, Int.reduceBNe, Int.reduceEq, Int.reduceNe, Ab.part, Nat.reduceAdd, Nat.reduceMul, Nat.reduceLeDiff, Nat.reduceEqDiff, Nat.reduceBEq, Nat.reduceBNe, reduceCtorEq, ↓reduceIte, implies_true, forall_const, Int.reduceNeg, Int.reduceToNat, Int.reduceLT, Int.reduceLE, Int.reduceAdd, Int.reduceSub, Int.reduceMul, Int.reducePow, Nat.reducePow, Try.f16, List.toList_toArray]))
    try simp [h]
  by_cases h1 : 256 ≤ i
  · have h2 : 255 < i := by omega
    (repeat (refine X_of _ ?_; simp -implicitDefEqProofs (maxSteps := 1000000) (disch := first | (simp only [nat4_length, nat8_length, arr_length, iarr_length, List.length_cons, List.length_nil, Nat.reduceAdd]; done) | omega) only [vcR, vcT, Int.reduceBEq, Int.reduceBNe, Int.reduceEq, Int.reduceNe, Ab.part, Nat.reduceAdd, Nat.reduceMul, Nat.reduceLeDiff, Nat.reduceEqDiff, Nat.reduceBEq, Nat.reduceBNe, reduceCtorEq, ↓reduceIte, implies_true, forall_const, Int.reduceNeg, Int.reduceToNat, Int.reduceLT, Int.reduceLE, Int.reduceAdd, Int.reduceSub, Int.reduceMul, Int.reducePow, Nat.reducePow, Try.f16, List.toList_toArray]))
    try simp [h1]
  have h2 : ¬ 255 < i := by omega
  obtain ⟨i, rfl⟩ := Int.eq_ofNat_of_zero_le (a := i) (by omega)
  have hw := wd_lt a (i / 64)
  have hs : wd a (i / 64) / 2 ^ (i % 64) < 18446744073709551616 := Nat.lt_of_le_of_lt (Nat.div_le_self _ _) hw
  (repeat (refine X_of _ ?_; simp -implicitDefEqProofs (maxSteps := 1000000) (disch := first | (simp only [nat4_length, nat8_length, arr_length, iarr_length, List.length_cons, List.length_nil, Nat.reduceAdd]; done) | omega) only [vcR, vcT, Int.reduceBEq, Int.reduceBNe, Int.reduceEq, Int.reduceNe, Ab.part, Nat.reduceAdd, Nat.reduceMul, Nat.reduceLeDiff, Nat.reduceEqDiff, Nat.reduceBEq, Nat.reduceBNe, reduceCtorEq, ↓reduceIte, implies_true, forall_const, Int.reduceNeg, Int.reduceToNat, Int.reduceLT, Int.reduceLE, Int.reduceAdd, Int.reduceSub, Int.reduceMul, Int.reducePow, Nat.reducePow, Try.f16, List.toList_toArray, tmodL]))
  rw [wd_bit]
end Go.Proofs.Ytpikjhpbldocnaa
