import Derived.Test.YtmipfmjeppodmaaN0
namespace Go.Proofs.Ytmipfmjeppodmaa
open Go Go.Ab
set_option linter.unusedSimpArgs false
set_option linter.unusedVariables false

theorem names_c : PureC Try.prog 3 [] (.s (.v (.bool true))) := by
  refine pureC_of Try.func3 rfl (by simp only [List.length_cons, List.length_nil, List.map_cons, List.map_nil, List.nodup_cons, List.nodup_nil, List.mem_cons, Nat.reduceAdd, Nat.reduceEqDiff, or_false, not_false_eq_true, forall_eq_or_imp, forall_eq, or_self, okv_p, okv_sl, Nat.reduceLT, Nat.reduceLeDiff, and_self, List.forall_mem_cons, List.not_mem_nil, false_implies, implies_true, and_true, true_and, oks_s, oks_agg, oks_tup, oka_s, oka_agg, okv_v, nat4_okk, nat8_okk, arr_okk, iarr_okk]) (by simp only [List.length_cons, List.length_nil, List.map_cons, List.map_nil, List.nodup_cons, List.nodup_nil, List.mem_cons, Nat.reduceAdd, Nat.reduceEqDiff, or_false, not_false_eq_true, forall_eq_or_imp, forall_eq, or_self, okv_p, okv_sl, Nat.reduceLT, Nat.reduceLeDiff, and_self, List.forall_mem_cons, List.not_mem_nil, false_implies, implies_true, and_true, true_and, oks_s, oks_agg, oks_tup, oka_s, oka_agg, okv_v, nat4_okk, nat8_okk, arr_okk, iarr_okk]) fun w => ?_
  simp only [List.length_cons, List.length_nil, Try.ntmps3, Nat.reduceAdd, Nat.reduceSub, List.replicate_succ, List.replicate_zero, List.cons_append, List.nil_append]
  (repeat (refine X_of _ ?_; simp -implicitDefEqProofs (maxSteps := 1000000) (disch := first | (simp only [nat4_length, nat8_length, arr_length, iarr_length, List.length_cons, List.length_nil, Nat.reduceAdd]; done) | omega) only [vcR, vcT, Int.reduceBEq, Int.reduceBNe, Int.reduceEq, Int.reduceNe, Ab.part, Nat.reduceAdd, Nat.reduceMul, Nat.reduceLeDiff, Nat.reduceEqDiff, Nat.reduceBEq, Nat.reduceBNe, reduceCtorEq, ↓reduceIte, implies_true, forall_const, Int.reduceNeg, Int.reduceToNat, Int.reduceLT, Int.reduceLE, Int.reduceAdd, Int.reduceSub, Int.reduceMul, Int.reducePow, Nat.reducePow, Try.f3, List.toList_toArray]))
end Go.Proofs.Ytmipfmjeppodmaa
