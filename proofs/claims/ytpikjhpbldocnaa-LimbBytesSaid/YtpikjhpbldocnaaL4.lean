import Derived.Test.YtpikjhpbldocnaaL3
namespace Go.Proofs.Ytpikjhpbldocnaa
open Go Go.Ab
set_option linter.unusedSimpArgs false
set_option linter.unusedVariables false
set_option maxHeartbeats 20000000


theorem small_c (a : Nat) (ha : a < 18446744073709551616) : PureC Try.prog 34 [.s (.v (.int .u64 (a : Int)))] (.agg (nat4 a)) := by
  refine pureC_of Try.func34 rfl (by simp only [List.length_cons, List.length_nil, List.map_cons, List.map_nil, List.nodup_cons, List.nodup_nil, List.mem_cons, Nat.reduceAdd, Nat.reduceEqDiff, or_false, not_false_eq_true, forall_eq_or_imp, forall_eq, or_self, okv_p, okv_sl, Nat.reduceLT, Nat.reduceLeDiff, and_self, List.forall_mem_cons, List.not_mem_nil, false_implies, implies_true, and_true, true_and, oks_s, oks_agg, oks_tup, oka_s, oka_agg, okv_v, nat4_okk, nat8_okk, arr_okk, iarr_okk]) (by simp only [List.length_cons, List.length_nil, List.map_cons, List.map_nil, List.nodup_cons, List.nodup_nil, List.mem_cons, Nat.reduceAdd, Nat.reduceEqDiff, or_false, not_false_eq_true, forall_eq_or_imp, forall_eq, or_self, okv_p, okv_sl, Nat.reduceLT, Nat.reduceLeDiff, and_self, List.forall_mem_cons, List.not_mem_nil, false_implies, implies_true, and_true, true_and, oks_s, oks_agg, oks_tup, oka_s, oka_agg, okv_v, nat4_okk, nat8_okk, arr_okk, iarr_okk]) fun w => ?_
  simp only [List.length_cons, List.length_nil, Try.ntmps34, Nat.reduceAdd, Nat.reduceSub, List.replicate_succ, List.replicate_zero, List.cons_append, List.nil_append]
  (repeat (refine X_of _ ?_; simp -implicitDefEqProofs (maxSteps := 1000000) (disch := first | (simp only [nat4_length, nat8_length, arr_length, iarr_length, List.length_cons, List.length_nil, Nat.reduceAdd]; done) | omega) only [vcR, vcT, Int.reduceBEq, Int.reduceBNe, Int.reduceEq, Int.reduceNe, Ab.part, Nat.reduceAdd, Nat.reduceMul, Nat.reduceLeDiff, Nat.reduceEqDiff, Nat.reduceBEq, Nat.reduceBNe, reduceCtorEq, ↓reduceIte, implies_true, forall_const, Int.reduceNeg, Int.reduceToNat, Int.reduceLT, Int.reduceLE, Int.reduceAdd, Int.reduceSub, Int.reduceMul, Int.reducePow, Nat.reducePow, Try.f34, List.toList_toArray, arr_set]))
  refine arr_congr fun i hi => ?_
  by_cases h : i = 0
  · subst h; simp [wd_small a ha]
  · simp only [h, if_false]
    rw [wd_big]
    exact Nat.lt_of_lt_of_le ha (Nat.pow_le_pow_right (n := 2) (i := 64) (by decide) (by omega))


theorem bit_c (a : Nat) (i : Int) : PureC Try.prog 13 [.agg (nat4 a), .s (.v (.int .i64 i))] (.s (.v (.int .u64 ((if i < 0 ∨ 256 ≤ i then 0 else a / 2 ^ i.toNat % 2 : Nat) : Int)))) := by
  refine pureC_of Try.func13 rfl (by simp only [List.length_cons, List.length_nil, List.map_cons, List.map_nil, List.nodup_cons, List.nodup_nil, List.mem_cons, Nat.reduceAdd, Nat.reduceEqDiff, or_false, not_false_eq_true, forall_eq_or_imp, forall_eq, or_self, okv_p, okv_sl, Nat.reduceLT, Nat.reduceLeDiff, and_self, List.forall_mem_cons, List.not_mem_nil, false_implies, implies_true, and_true, true_and, oks_s, oks_agg, oks_tup, oka_s, oka_agg, okv_v, nat4_okk, nat8_okk, arr_okk, iarr_okk]) (by simp only [List.length_cons, List.length_nil, List.map_cons, List.map_nil, List.nodup_cons, List.nodup_nil, List.mem_cons, Nat.reduceAdd, Nat.reduceEqDiff, or_false, not_false_eq_true, forall_eq_or_imp, forall_eq, or_self, okv_p, okv_sl, Nat.reduceLT, Nat.reduceLeDiff, and_self, List.forall_mem_cons, List.not_mem_nil, false_implies, implies_true, and_true, true_and, oks_s, oks_agg, oks_tup, oka_s, oka_agg, okv_v, nat4_okk, nat8_okk, arr_okk, iarr_okk]) fun w => ?_
  simp only [List.length_cons, List.length_nil, Try.ntmps13, Nat.reduceAdd, Nat.reduceSub, List.replicate_succ, List.replicate_zero, List.cons_append, List.nil_append]
  by_cases h : i < 0
  · (repeat (refine X_of _ ?_; simp -implicitDefEqProofs (maxSteps := 1000000) (disch := first | (simp only [nat4_length, nat8_length, arr_length, iarr_length, List.length_cons, List.length_nil, Nat.reduceAdd]; done) | omega) only [vcR, vcT, Int.reduceBEq, Int.reduceBNe, Int.reduceEq, Int.reduceNe, Ab.part, Nat.reduceAdd, Nat.reduceMul, Nat.reduceLeDiff, Nat.reduceEqDiff, Nat.reduceBEq, Nat.reduceBNe, reduceCtorEq, ↓reduceIte, implies_true, forall_const, Int.reduceNeg, Int.reduceToNat, Int.reduceLT, Int.reduceLE, Int.reduceAdd, Int.reduceSub, Int.reduceMul, Int.reducePow, Nat.reducePow, Try.f13, List.toList_toArray]))
    try simp [h]
  by_cases h1 : 256 ≤ i
  · (repeat (refine X_of _ ?_; simp -implicitDefEqProofs (maxSteps := 1000000) (disch := first | (simp only [nat4_length, nat8_length, arr_length, iarr_length, List.length_cons, List.length_nil, Nat.reduceAdd]; done) | omega) only [vcR, vcT, Int.reduceBEq, Int.reduceBNe, Int.reduceEq, Int.reduceNe, Ab.part, Nat.reduceAdd, Nat.reduceMul, Nat.reduceLeDiff, Nat.reduceEqDiff, Nat.reduceBEq, Nat.reduceBNe, reduceCtorEq, ↓reduceIte, implies_true, forall_const, Int.reduceNeg, Int.reduceToNat, Int.reduceLT, Int.reduceLE, Int.reduceAdd, Int.reduceSub, Int.reduceMul, Int.reducePow, Nat.reducePow, Try.f13, List.toList_toArray]))
    try simp [h1]
  obtain ⟨i, rfl⟩ := Int.eq_ofNat_of_zero_le (a := i) (by omega)
  have hw := wd_lt a (i / 64)
  have hs : wd a (i / 64) / 2 ^ (i % 64) < 18446744073709551616 := Nat.lt_of_le_of_lt (Nat.div_le_self _ _) hw
  (repeat (refine X_of _ ?_; simp -implicitDefEqProofs (maxSteps := 1000000) (disch := first | (simp only [nat4_length, nat8_length, arr_length, iarr_length, List.length_cons, List.length_nil, Nat.reduceAdd]; done) | omega) only [vcR, vcT, Int.reduceBEq, Int.reduceBNe, Int.reduceEq, Int.reduceNe, Ab.part, Nat.reduceAdd, Nat.reduceMul, Nat.reduceLeDiff, Nat.reduceEqDiff, Nat.reduceBEq, Nat.reduceBNe, reduceCtorEq, ↓reduceIte, implies_true, forall_const, Int.reduceNeg, Int.reduceToNat, Int.reduceLT, Int.reduceLE, Int.reduceAdd, Int.reduceSub, Int.reduceMul, Int.reducePow, Nat.reducePow, Try.f13, List.toList_toArray, nat4,arr_get]))
  rw [wd_bit]


theorem word_c (a : Nat) (i : Int) : PureC Try.prog 39 [.agg (nat4 a), .s (.v (.int .i64 i))] (.s (.v (.int .u64 ((if i < 0 ∨ 4 ≤ i then 0 else wd a i.toNat : Nat) : Int)))) := by
  refine pureC_of Try.func39 rfl (by simp only [List.length_cons, List.length_nil, List.map_cons, List.map_nil, List.nodup_cons, List.nodup_nil, List.mem_cons, Nat.reduceAdd, Nat.reduceEqDiff, or_false, not_false_eq_true, forall_eq_or_imp, forall_eq, or_self, okv_p, okv_sl, Nat.reduceLT, Nat.reduceLeDiff, and_self, List.forall_mem_cons, List.not_mem_nil, false_implies, implies_true, and_true, true_and, oks_s, oks_agg, oks_tup, oka_s, oka_agg, okv_v, nat4_okk, nat8_okk, arr_okk, iarr_okk]) (by simp only [List.length_cons, List.length_nil, List.map_cons, List.map_nil, List.nodup_cons, List.nodup_nil, List.mem_cons, Nat.reduceAdd, Nat.reduceEqDiff, or_false, not_false_eq_true, forall_eq_or_imp, forall_eq, or_self, okv_p, okv_sl, Nat.reduceLT, Nat.reduceLeDiff, and_self, List.forall_mem_cons, List.not_mem_nil, false_implies, implies_true, and_true, true_and, oks_s, oks_agg, oks_tup, oka_s, oka_agg, okv_v, nat4_okk, nat8_okk, arr_okk, iarr_okk]) fun w => ?_
  simp only [List.length_cons, List.length_nil, Try.ntmps39, Nat.reduceAdd, Nat.reduceSub, List.replicate_succ, List.replicate_zero, List.cons_append, List.nil_append]
  by_cases h : i < 0
  · (repeat (refine X_of _ ?_; simp -implicitDefEqProofs (maxSteps := 1000000) (disch := first | (simp only [nat4_length, nat8_length, arr_length, iarr_length, List.length_cons, List.length_nil, Nat.reduceAdd]; done) | omega) only [vcR, vcT, Int.reduceBEq, Int.reduceBNe, Int.reduceEq, Int.reduceNe, Ab.part, Nat.reduceAdd, Nat.reduceMul, Nat.reduceLeDiff, Nat.reduceEqDiff, Nat.reduceBEq, Nat.reduceBNe, reduceCtorEq, ↓reduceIte, implies_true, forall_const, Int.reduceNeg, Int.reduceToNat, Int.reduceLT, Int.reduceLE, Int.reduceAdd, Int.reduceSub, Int.reduceMul, Int.reducePow, Nat.reducePow, Try.f39, List.toList_toArray]))
    try simp [h]
  by_cases h1 : 4 ≤ i
  · (repeat (refine X_of _ ?_; simp -implicitDefEqProofs (maxSteps := 1000000) (disch := first | (simp only [nat4_length, nat8_length, arr_length, iarr_length, List.length_cons, List.length_nil, Nat.reduceAdd]; done) | omega) only [vcR, vcT, Int.reduceBEq, Int.reduceBNe, Int.reduceEq, Int.reduceNe, Ab.part, Nat.reduceAdd, Nat.reduceMul, Nat.reduceLeDiff, Nat.reduceEqDiff, Nat.reduceBEq, Nat.reduceBNe, reduceCtorEq, ↓reduceIte, implies_true, forall_const, Int.reduceNeg, Int.reduceToNat, Int.reduceLT, Int.reduceLE, Int.reduceAdd, Int.reduceSub, Int.reduceMul, Int.reducePow, Nat.reducePow, Try.f39, List.toList_toArray]))
    try simp [h1]
  obtain ⟨i, rfl⟩ := Int.eq_ofNat_of_zero_le (a := i) (by omega)
  (repeat (refine X_of _ ?_; simp -implicitDefEqProofs (maxSteps := 1000000) (disch := first | (simp only [nat4_length, nat8_length, arr_length, iarr_length, List.length_cons, List.length_nil, Nat.reduceAdd]; done) | omega) only [vcR, vcT, Int.reduceBEq, Int.reduceBNe, Int.reduceEq, Int.reduceNe, Ab.part, Nat.reduceAdd, Nat.reduceMul, Nat.reduceLeDiff, Nat.reduceEqDiff, Nat.reduceBEq, Nat.reduceBNe, reduceCtorEq, ↓reduceIte, implies_true, forall_const, Int.reduceNeg, Int.reduceToNat, Int.reduceLT, Int.reduceLE, Int.reduceAdd, Int.reduceSub, Int.reduceMul, Int.reducePow, Nat.reducePow, Try.f39, List.toList_toArray, nat4,arr_get]))
end Go.Proofs.Ytpikjhpbldocnaa
