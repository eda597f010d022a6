import Derived.Test.YtpikjhpbldocnaaL9
import Derived.Test.YtpikjhpbldocnaaNm3
namespace Go.Proofs.Ytpikjhpbldocnaa
open Go Go.Ab
set_option linter.unusedSimpArgs false
set_option linter.unusedVariables false
set_option maxHeartbeats 20000000

theorem rbit_n (a i : Nat) (hi : i < 256) : PureC Try.prog 16 [.agg (nat4 a), .s (.v (.int .i64 (i : Int)))] (.s (.v (.int .u64 ((a / 2 ^ i % 2 : Nat) : Int)))) := by
  have := rbit_c a i
  rw [if_neg (by omega)] at this
  exact this


theorem rlen_c (a : Nat) (ha : a < 2 ^ 256) : PureC Try.prog 17 [.agg (nat4 a)] (.s (.v (.int .i64 (blen a : Int)))) := by
  refine pureC_of Try.func17 rfl (by simp only [List.length_cons, List.length_nil, List.map_cons, List.map_nil, List.nodup_cons, List.nodup_nil, List.mem_cons, Nat.reduceAdd, Nat.reduceEqDiff, or_false, not_false_eq_true, forall_eq_or_imp, forall_eq, or_self, okv_p, okv_sl, Nat.reduceLT, Nat.reduceLeDiff, and_self, List.forall_mem_cons, List.not_mem_nil, false_implies, implies_true, and_true, true_and, oks_s, oks_agg, oks_tup, oka_s, oka_agg, okv_v, nat4_okk, nat8_okk, arr_okk, iarr_okk]) (by simp only [List.length_cons, List.length_nil, List.map_cons, List.map_nil, List.nodup_cons, List.nodup_nil, List.mem_cons, Nat.reduceAdd, Nat.reduceEqDiff, or_false, not_false_eq_true, forall_eq_or_imp, forall_eq, or_self, okv_p, okv_sl, Nat.reduceLT, Nat.reduceLeDiff, and_self, List.forall_mem_cons, List.not_mem_nil, false_implies, implies_true, and_true, true_and, oks_s, oks_agg, oks_tup, oka_s, oka_agg, okv_v, nat4_okk, nat8_okk, arr_okk, iarr_okk]) fun w => ?_
  simp only [List.length_cons, List.length_nil, Try.ntmps17, Nat.reduceAdd, Nat.reduceSub, List.replicate_succ, List.replicate_zero, List.cons_append, List.nil_append]
  (repeat (refine X_of _ ?_; simp -implicitDefEqProofs (maxSteps := 1000000) (disch := first | (simp only [nat4_length, nat8_length, arr_length, iarr_length, List.length_cons, List.length_nil, Nat.reduceAdd]; done) | omega) only [vcR, vcT, Int.reduceBEq, Int.reduceBNe, Int.reduceEq, Int.reduceNe, Ab.part, Nat.reduceAdd, Nat.reduceMul, Nat.reduceLeDiff, Nat.reduceEqDiff, Nat.reduceBEq, Nat.reduceBNe, reduceCtorEq, ↓reduceIte, implies_true, forall_const, Int.reduceNeg, Int.reduceToNat, Int.reduceLT, Int.reduceLE, Int.reduceAdd, Int.reduceSub, Int.reduceMul, Int.reducePow, Nat.reducePow, Try.f17, List.toList_toArray]))
  refine X_loop (ι := Nat) (fun k => k ≤ 256) (fun k => 256 - k) [3, 4, 5, 6, 7, 8, 9, 10, 11, 12, 13, 14]
    (fun k => [(3, .s (.v (.int .i64 (blen (a % 2 ^ k) : Nat)))), (4, .s (.v (.int .i64 (k : Nat))))])
    (fun k => []) 0 (shape_of fun i => ?_) (by decide) ?_ ?_
  · simp only [List.length_cons, List.length_nil, List.map_cons, List.map_nil, List.nodup_cons, List.nodup_nil, List.mem_cons, Nat.reduceAdd, Nat.reduceEqDiff, or_false, not_false_eq_true, forall_eq_or_imp, forall_eq, or_self, okv_p, okv_sl, Nat.reduceLT, Nat.reduceLeDiff, and_self, List.forall_mem_cons, List.not_mem_nil, false_implies, implies_true, and_true, true_and, oks_s, oks_agg, oks_tup, oka_s, oka_agg, okv_v, nat4_okk, nat8_okk, arr_okk, iarr_okk]
  · simp -implicitDefEqProofs (maxSteps := 1000000) (disch := first | (simp only [nat4_length, nat8_length, arr_length, iarr_length, List.length_cons, List.length_nil, Nat.reduceAdd]; done) | omega) only [vcR, vcT, Int.reduceBEq, Int.reduceBNe, Int.reduceEq, Int.reduceNe, Ab.part, Nat.reduceAdd, Nat.reduceMul, Nat.reduceLeDiff, Nat.reduceEqDiff, Nat.reduceBEq, Nat.reduceBNe, reduceCtorEq, ↓reduceIte, implies_true, forall_const, Int.reduceNeg, Int.reduceToNat, Int.reduceLT, Int.reduceLE, Int.reduceAdd, Int.reduceSub, Int.reduceMul, Int.reducePow, Nat.reducePow, Try.f17, List.toList_toArray, again_eq]
    rw [Nat.mod_one]
    simp [blen]
  · intro k us hk
    obtain ⟨l, hl⟩ : ∃ l, blen (a % 2 ^ k) = l := ⟨_, rfl⟩
    rw [hl]
    (repeat (refine X_of _ ?_; simp -implicitDefEqProofs (maxSteps := 1000000) (disch := first | (simp only [nat4_length, nat8_length, arr_length, iarr_length, List.length_cons, List.length_nil, Nat.reduceAdd]; done) | omega) only [vcR, vcT, Int.reduceBEq, Int.reduceBNe, Int.reduceEq, Int.reduceNe, Ab.part, Nat.reduceAdd, Nat.reduceMul, Nat.reduceLeDiff, Nat.reduceEqDiff, Nat.reduceBEq, Nat.reduceBNe, reduceCtorEq, ↓reduceIte, implies_true, forall_const, Int.reduceNeg, Int.reduceToNat, Int.reduceLT, Int.reduceLE, Int.reduceAdd, Int.reduceSub, Int.reduceMul, Int.reducePow, Nat.reducePow, Try.f17, List.toList_toArray]))
    refine ⟨fun h => ?_, fun h => ?_⟩
    · have hst := blen_step a k
      have hb := rbit_n a k (by omega)
      obtain ⟨b, hbe⟩ : ∃ b, a / 2 ^ k % 2 = b := ⟨_, rfl⟩
      rw [hbe] at hb hst
      have hb2 : b = 0 ∨ b = 1 := by omega
      rcases hb2 with rfl | rfl
      · (repeat (refine X_of _ ?_; simp -implicitDefEqProofs (maxSteps := 1000000) (disch := first | (simp only [nat4_length, nat8_length, arr_length, iarr_length, List.length_cons, List.length_nil, Nat.reduceAdd]; done) | omega) only [vcR, vcT, Int.reduceBEq, Int.reduceBNe, Int.reduceEq, Int.reduceNe, Ab.part, Nat.reduceAdd, Nat.reduceMul, Nat.reduceLeDiff, Nat.reduceEqDiff, Nat.reduceBEq, Nat.reduceBNe, reduceCtorEq, ↓reduceIte, implies_true, forall_const, Int.reduceNeg, Int.reduceToNat, Int.reduceLT, Int.reduceLE, Int.reduceAdd, Int.reduceSub, Int.reduceMul, Int.reducePow, Nat.reducePow, Try.f17, List.toList_toArray]))
        (apply xcall_pure; kernel_rfl; exact PureC.cal (hb); try simp -implicitDefEqProofs (maxSteps := 1000000) (disch := first | (simp only [nat4_length, nat8_length, arr_length, iarr_length, List.length_cons, List.length_nil, Nat.reduceAdd]; done) | omega) only [vcR, vcT, Int.reduceBEq, Int.reduceBNe, Int.reduceEq, Int.reduceNe, Ab.part, Nat.reduceAdd, Nat.reduceMul, Nat.reduceLeDiff, Nat.reduceEqDiff, Nat.reduceBEq, Nat.reduceBNe, reduceCtorEq, ↓reduceIte, implies_true, forall_const, Int.reduceNeg, Int.reduceToNat, Int.reduceLT, Int.reduceLE, Int.reduceAdd, Int.reduceSub, Int.reduceMul, Int.reducePow, Nat.reducePow, Try.f17, List.toList_toArray])
        (repeat (refine X_of _ ?_; simp -implicitDefEqProofs (maxSteps := 1000000) (disch := first | (simp only [nat4_length, nat8_length, arr_length, iarr_length, List.length_cons, List.length_nil, Nat.reduceAdd]; done) | omega) only [vcR, vcT, Int.reduceBEq, Int.reduceBNe, Int.reduceEq, Int.reduceNe, Ab.part, Nat.reduceAdd, Nat.reduceMul, Nat.reduceLeDiff, Nat.reduceEqDiff, Nat.reduceBEq, Nat.reduceBNe, reduceCtorEq, ↓reduceIte, implies_true, forall_const, Int.reduceNeg, Int.reduceToNat, Int.reduceLT, Int.reduceLE, Int.reduceAdd, Int.reduceSub, Int.reduceMul, Int.reducePow, Nat.reducePow, Try.f17, List.toList_toArray]))
        refine ⟨k + 1, by omega, ?_⟩
        simp -implicitDefEqProofs (maxSteps := 1000000) (disch := first | (simp only [nat4_length, nat8_length, arr_length, iarr_length, List.length_cons, List.length_nil, Nat.reduceAdd]; done) | omega) only [vcR, vcT, Int.reduceBEq, Int.reduceBNe, Int.reduceEq, Int.reduceNe, Ab.part, Nat.reduceAdd, Nat.reduceMul, Nat.reduceLeDiff, Nat.reduceEqDiff, Nat.reduceBEq, Nat.reduceBNe, reduceCtorEq, ↓reduceIte, implies_true, forall_const, Int.reduceNeg, Int.reduceToNat, Int.reduceLT, Int.reduceLE, Int.reduceAdd, Int.reduceSub, Int.reduceMul, Int.reducePow, Nat.reducePow, Try.f17, List.toList_toArray, again_eq]
        rw [hst]
        simp [hl]
      · (repeat (refine X_of _ ?_; simp -implicitDefEqProofs (maxSteps := 1000000) (disch := first | (simp only [nat4_length, nat8_length, arr_length, iarr_length, List.length_cons, List.length_nil, Nat.reduceAdd]; done) | omega) only [vcR, vcT, Int.reduceBEq, Int.reduceBNe, Int.reduceEq, Int.reduceNe, Ab.part, Nat.reduceAdd, Nat.reduceMul, Nat.reduceLeDiff, Nat.reduceEqDiff, Nat.reduceBEq, Nat.reduceBNe, reduceCtorEq, ↓reduceIte, implies_true, forall_const, Int.reduceNeg, Int.reduceToNat, Int.reduceLT, Int.reduceLE, Int.reduceAdd, Int.reduceSub, Int.reduceMul, Int.reducePow, Nat.reducePow, Try.f17, List.toList_toArray]))
        (apply xcall_pure; kernel_rfl; exact PureC.cal (hb); try simp -implicitDefEqProofs (maxSteps := 1000000) (disch := first | (simp only [nat4_length, nat8_length, arr_length, iarr_length, List.length_cons, List.length_nil, Nat.reduceAdd]; done) | omega) only [vcR, vcT, Int.reduceBEq, Int.reduceBNe, Int.reduceEq, Int.reduceNe, Ab.part, Nat.reduceAdd, Nat.reduceMul, Nat.reduceLeDiff, Nat.reduceEqDiff, Nat.reduceBEq, Nat.reduceBNe, reduceCtorEq, ↓reduceIte, implies_true, forall_const, Int.reduceNeg, Int.reduceToNat, Int.reduceLT, Int.reduceLE, Int.reduceAdd, Int.reduceSub, Int.reduceMul, Int.reducePow, Nat.reducePow, Try.f17, List.toList_toArray])
        (repeat (refine X_of _ ?_; simp -implicitDefEqProofs (maxSteps := 1000000) (disch := first | (simp only [nat4_length, nat8_length, arr_length, iarr_length, List.length_cons, List.length_nil, Nat.reduceAdd]; done) | omega) only [vcR, vcT, Int.reduceBEq, Int.reduceBNe, Int.reduceEq, Int.reduceNe, Ab.part, Nat.reduceAdd, Nat.reduceMul, Nat.reduceLeDiff, Nat.reduceEqDiff, Nat.reduceBEq, Nat.reduceBNe, reduceCtorEq, ↓reduceIte, implies_true, forall_const, Int.reduceNeg, Int.reduceToNat, Int.reduceLT, Int.reduceLE, Int.reduceAdd, Int.reduceSub, Int.reduceMul, Int.reducePow, Nat.reducePow, Try.f17, List.toList_toArray]))
        refine ⟨k + 1, by omega, ?_⟩
        simp -implicitDefEqProofs (maxSteps := 1000000) (disch := first | (simp only [nat4_length, nat8_length, arr_length, iarr_length, List.length_cons, List.length_nil, Nat.reduceAdd]; done) | omega) only [vcR, vcT, Int.reduceBEq, Int.reduceBNe, Int.reduceEq, Int.reduceNe, Ab.part, Nat.reduceAdd, Nat.reduceMul, Nat.reduceLeDiff, Nat.reduceEqDiff, Nat.reduceBEq, Nat.reduceBNe, reduceCtorEq, ↓reduceIte, implies_true, forall_const, Int.reduceNeg, Int.reduceToNat, Int.reduceLT, Int.reduceLE, Int.reduceAdd, Int.reduceSub, Int.reduceMul, Int.reducePow, Nat.reducePow, Try.f17, List.toList_toArray, again_eq]
        rw [hst]
        simp
    · have : k = 256 := by omega
      subst this
      rw [Nat.mod_eq_of_lt ha] at hl
      (repeat (refine X_of _ ?_; simp -implicitDefEqProofs (maxSteps := 1000000) (disch := first | (simp only [nat4_length, nat8_length, arr_length, iarr_length, List.length_cons, List.length_nil, Nat.reduceAdd]; done) | omega) only [vcR, vcT, Int.reduceBEq, Int.reduceBNe, Int.reduceEq, Int.reduceNe, Ab.part, Nat.reduceAdd, Nat.reduceMul, Nat.reduceLeDiff, Nat.reduceEqDiff, Nat.reduceBEq, Nat.reduceBNe, reduceCtorEq, ↓reduceIte, implies_true, forall_const, Int.reduceNeg, Int.reduceToNat, Int.reduceLT, Int.reduceLE, Int.reduceAdd, Int.reduceSub, Int.reduceMul, Int.reducePow, Nat.reducePow, Try.f17, List.toList_toArray]))
      try simp [hl]


theorem rshift_c (a : Nat) (n : Int) (hn1 : -9223372036854775808 ≤ n) (hn2 : n < 9223372036854775808) (ha : a < 2 ^ 256) : PureC Try.prog 18 [.agg (nat4 a), .s (.v (.int .i64 n))] (.agg (nat4 (shf a n))) := by
  refine pureC_of Try.func18 rfl (by simp only [List.length_cons, List.length_nil, List.map_cons, List.map_nil, List.nodup_cons, List.nodup_nil, List.mem_cons, Nat.reduceAdd, Nat.reduceEqDiff, or_false, not_false_eq_true, forall_eq_or_imp, forall_eq, or_self, okv_p, okv_sl, Nat.reduceLT, Nat.reduceLeDiff, and_self, List.forall_mem_cons, List.not_mem_nil, false_implies, implies_true, and_true, true_and, oks_s, oks_agg, oks_tup, oka_s, oka_agg, okv_v, nat4_okk, nat8_okk, arr_okk, iarr_okk]) (by simp only [List.length_cons, List.length_nil, List.map_cons, List.map_nil, List.nodup_cons, List.nodup_nil, List.mem_cons, Nat.reduceAdd, Nat.reduceEqDiff, or_false, not_false_eq_true, forall_eq_or_imp, forall_eq, or_self, okv_p, okv_sl, Nat.reduceLT, Nat.reduceLeDiff, and_self, List.forall_mem_cons, List.not_mem_nil, false_implies, implies_true, and_true, true_and, oks_s, oks_agg, oks_tup, oka_s, oka_agg, okv_v, nat4_okk, nat8_okk, arr_okk, iarr_okk]) fun w => ?_
  simp only [List.length_cons, List.length_nil, Try.ntmps18, Nat.reduceAdd, Nat.reduceSub, List.replicate_succ, List.replicate_zero, List.cons_append, List.nil_append]
  by_cases h : 300 < n
  · have e : shf a n = 0 := by unfold shf; rw [if_pos (by omega)]
    rw [e]
    (repeat (refine X_of _ ?_; simp -implicitDefEqProofs (maxSteps := 1000000) (disch := first | (simp only [nat4_length, nat8_length, arr_length, iarr_length, List.length_cons, List.length_nil, Nat.reduceAdd]; done) | omega) only [vcR, vcT, Int.reduceBEq, Int.reduceBNe, Int.reduceEq, Int.reduceNe, Ab.part, Nat.reduceAdd, Nat.reduceMul, Nat.reduceLeDiff, Nat.reduceEqDiff, Nat.reduceBEq, Nat.reduceBNe, reduceCtorEq, ↓reduceIte, implies_true, forall_const, Int.reduceNeg, Int.reduceToNat, Int.reduceLT, Int.reduceLE, Int.reduceAdd, Int.reduceSub, Int.reduceMul, Int.reducePow, Nat.reducePow, Try.f18, List.toList_toArray, arr4_zero]))
  by_cases h1 : n < -300
  · have e : shf a n = 0 := by unfold shf; rw [if_pos (by omega)]
    rw [e]
    (repeat (refine X_of _ ?_; simp -implicitDefEqProofs (maxSteps := 1000000) (disch := first | (simp only [nat4_length, nat8_length, arr_length, iarr_length, List.length_cons, List.length_nil, Nat.reduceAdd]; done) | omega) only [vcR, vcT, Int.reduceBEq, Int.reduceBNe, Int.reduceEq, Int.reduceNe, Ab.part, Nat.reduceAdd, Nat.reduceMul, Nat.reduceLeDiff, Nat.reduceEqDiff, Nat.reduceBEq, Nat.reduceBNe, reduceCtorEq, ↓reduceIte, implies_true, forall_const, Int.reduceNeg, Int.reduceToNat, Int.reduceLT, Int.reduceLE, Int.reduceAdd, Int.reduceSub, Int.reduceMul, Int.reducePow, Nat.reducePow, Try.f18, List.toList_toArray, arr4_zero]))
  (repeat (refine X_of _ ?_; simp -implicitDefEqProofs (maxSteps := 1000000) (disch := first | (simp only [nat4_length, nat8_length, arr_length, iarr_length, List.length_cons, List.length_nil, Nat.reduceAdd]; done) | omega) only [vcR, vcT, Int.reduceBEq, Int.reduceBNe, Int.reduceEq, Int.reduceNe, Ab.part, Nat.reduceAdd, Nat.reduceMul, Nat.reduceLeDiff, Nat.reduceEqDiff, Nat.reduceBEq, Nat.reduceBNe, reduceCtorEq, ↓reduceIte, implies_true, forall_const, Int.reduceNeg, Int.reduceToNat, Int.reduceLT, Int.reduceLE, Int.reduceAdd, Int.reduceSub, Int.reduceMul, Int.reducePow, Nat.reducePow, Try.f18, List.toList_toArray, arr4_zero]))
  have hq := shf_lt a n ha
  have hbit : ∀ k : Nat, k < 256 → PureC Try.prog 16 [.agg (nat4 a), .s (.v (.int .i64 ((k : Int) - n)))] (.s (.v (.int .u64 ((shf a n / 2 ^ k % 2 : Nat) : Int)))) := by
    intro k hk
    rw [shf_bit a n k ha hk]
    exact rbit_c a _
  obtain ⟨q, hqe⟩ : ∃ q, shf a n = q := ⟨_, rfl⟩
  rw [hqe] at hq
  simp only [hqe] at hbit ⊢
  refine X_loop (ι := Nat) (fun k => k ≤ 256) (fun k => 256 - k) [6, 15, 16, 17, 18, 19, 20, 21, 22, 23, 24, 25, 26, 27, 28, 29, 30, 31, 32, 33, 34]
    (fun k => [(6, .s (.v (.int .i64 (k : Nat))))])
    (fun k => [(2, nat4 (q % 2 ^ k))]) 0 (shape_of fun i => ?_) (by decide) ?_ ?_
  · simp only [List.length_cons, List.length_nil, List.map_cons, List.map_nil, List.nodup_cons, List.nodup_nil, List.mem_cons, Nat.reduceAdd, Nat.reduceEqDiff, or_false, not_false_eq_true, forall_eq_or_imp, forall_eq, or_self, okv_p, okv_sl, Nat.reduceLT, Nat.reduceLeDiff, and_self, List.forall_mem_cons, List.not_mem_nil, false_implies, implies_true, and_true, true_and, oks_s, oks_agg, oks_tup, oka_s, oka_agg, okv_v, nat4_okk, nat8_okk, arr_okk, iarr_okk]
  · simp -implicitDefEqProofs (maxSteps := 1000000) (disch := first | (simp only [nat4_length, nat8_length, arr_length, iarr_length, List.length_cons, List.length_nil, Nat.reduceAdd]; done) | omega) only [vcR, vcT, Int.reduceBEq, Int.reduceBNe, Int.reduceEq, Int.reduceNe, Ab.part, Nat.reduceAdd, Nat.reduceMul, Nat.reduceLeDiff, Nat.reduceEqDiff, Nat.reduceBEq, Nat.reduceBNe, reduceCtorEq, ↓reduceIte, implies_true, forall_const, Int.reduceNeg, Int.reduceToNat, Int.reduceLT, Int.reduceLE, Int.reduceAdd, Int.reduceSub, Int.reduceMul, Int.reducePow, Nat.reducePow, Try.f18, List.toList_toArray, again_eq]
    rw [Nat.mod_one]
    simp
  · intro k us hk
    have hup := arr_up q k
    have hlt := up_lt q k
    have hb2 : q / 2 ^ k % 2 ≤ 1 := by omega
    have hw0 := wd_lt (q % 2 ^ k) (k / 64)
    (repeat (refine X_of _ ?_; simp -implicitDefEqProofs (maxSteps := 1000000) (disch := first | (simp only [nat4_length, nat8_length, arr_length, iarr_length, List.length_cons, List.length_nil, Nat.reduceAdd]; done) | omega) only [vcR, vcT, Int.reduceBEq, Int.reduceBNe, Int.reduceEq, Int.reduceNe, Ab.part, Nat.reduceAdd, Nat.reduceMul, Nat.reduceLeDiff, Nat.reduceEqDiff, Nat.reduceBEq, Nat.reduceBNe, reduceCtorEq, ↓reduceIte, implies_true, forall_const, Int.reduceNeg, Int.reduceToNat, Int.reduceLT, Int.reduceLE, Int.reduceAdd, Int.reduceSub, Int.reduceMul, Int.reducePow, Nat.reducePow, Try.f18, List.toList_toArray]))
    refine ⟨fun h2 => ?_, fun h2 => ?_⟩
    · have hb := hbit k (by omega)
      obtain ⟨b, hbe⟩ : ∃ b, q / 2 ^ k % 2 = b := ⟨_, rfl⟩
      obtain ⟨r, hre⟩ : ∃ r, q % 2 ^ k = r := ⟨_, rfl⟩
      rw [hbe] at hb hup hlt hb2
      rw [hre] at hup hlt hw0
      rw [hre]
      (repeat (refine X_of _ ?_; simp -implicitDefEqProofs (maxSteps := 1000000) (disch := first | (simp only [nat4_length, nat8_length, arr_length, iarr_length, List.length_cons, List.length_nil, Nat.reduceAdd]; done) | omega) only [vcR, vcT, Int.reduceBEq, Int.reduceBNe, Int.reduceEq, Int.reduceNe, Ab.part, Nat.reduceAdd, Nat.reduceMul, Nat.reduceLeDiff, Nat.reduceEqDiff, Nat.reduceBEq, Nat.reduceBNe, reduceCtorEq, ↓reduceIte, implies_true, forall_const, Int.reduceNeg, Int.reduceToNat, Int.reduceLT, Int.reduceLE, Int.reduceAdd, Int.reduceSub, Int.reduceMul, Int.reducePow, Nat.reducePow, Try.f18, List.toList_toArray]))
      (refine X_draw 16 (by kernel_rfl) (by kernel_rfl) ?_; simp only [List.take_succ_cons, List.take_zero, List.drop_succ_cons, List.drop_zero]; simp -implicitDefEqProofs (maxSteps := 1000000) (disch := first | (simp only [nat4_length, nat8_length, arr_length, iarr_length, List.length_cons, List.length_nil, Nat.reduceAdd]; done) | omega) only [vcR, vcT, Int.reduceBEq, Int.reduceBNe, Int.reduceEq, Int.reduceNe, Ab.part, Nat.reduceAdd, Nat.reduceMul, Nat.reduceLeDiff, Nat.reduceEqDiff, Nat.reduceBEq, Nat.reduceBNe, reduceCtorEq, ↓reduceIte, implies_true, forall_const, Int.reduceNeg, Int.reduceToNat, Int.reduceLT, Int.reduceLE, Int.reduceAdd, Int.reduceSub, Int.reduceMul, Int.reducePow, Nat.reducePow, Try.f18, List.toList_toArray])
      have hb3 : b * 2 ^ (k % 64) < 18446744073709551616 := by omega
      (apply xcallV_pure; kernel_rfl; exact PureC.cal (hb); try simp -implicitDefEqProofs (maxSteps := 1000000) (disch := first | (simp only [nat4_length, nat8_length, arr_length, iarr_length, List.length_cons, List.length_nil, Nat.reduceAdd]; done) | omega) only [vcR, vcT, Int.reduceBEq, Int.reduceBNe, Int.reduceEq, Int.reduceNe, Ab.part, Nat.reduceAdd, Nat.reduceMul, Nat.reduceLeDiff, Nat.reduceEqDiff, Nat.reduceBEq, Nat.reduceBNe, reduceCtorEq, ↓reduceIte, implies_true, forall_const, Int.reduceNeg, Int.reduceToNat, Int.reduceLT, Int.reduceLE, Int.reduceAdd, Int.reduceSub, Int.reduceMul, Int.reducePow, Nat.reducePow, Try.f18, List.toList_toArray, hup])
      (repeat (refine X_of _ ?_; simp -implicitDefEqProofs (maxSteps := 1000000) (disch := first | (simp only [nat4_length, nat8_length, arr_length, iarr_length, List.length_cons, List.length_nil, Nat.reduceAdd]; done) | omega) only [vcR, vcT, Int.reduceBEq, Int.reduceBNe, Int.reduceEq, Int.reduceNe, Ab.part, Nat.reduceAdd, Nat.reduceMul, Nat.reduceLeDiff, Nat.reduceEqDiff, Nat.reduceBEq, Nat.reduceBNe, reduceCtorEq, ↓reduceIte, implies_true, forall_const, Int.reduceNeg, Int.reduceToNat, Int.reduceLT, Int.reduceLE, Int.reduceAdd, Int.reduceSub, Int.reduceMul, Int.reducePow, Nat.reducePow, Try.f18, List.toList_toArray, hup]))
      refine ⟨k + 1, by omega, ?_⟩
      simp -implicitDefEqProofs (maxSteps := 1000000) (disch := first | (simp only [nat4_length, nat8_length, arr_length, iarr_length, List.length_cons, List.length_nil, Nat.reduceAdd]; done) | omega) only [vcR, vcT, Int.reduceBEq, Int.reduceBNe, Int.reduceEq, Int.reduceNe, Ab.part, Nat.reduceAdd, Nat.reduceMul, Nat.reduceLeDiff, Nat.reduceEqDiff, Nat.reduceBEq, Nat.reduceBNe, reduceCtorEq, ↓reduceIte, implies_true, forall_const, Int.reduceNeg, Int.reduceToNat, Int.reduceLT, Int.reduceLE, Int.reduceAdd, Int.reduceSub, Int.reduceMul, Int.reducePow, Nat.reducePow, Try.f18, List.toList_toArray, again_eq]
      simp
    · have : k = 256 := by omega
      subst this
      rw [Nat.mod_eq_of_lt hq]
      (repeat (refine X_of _ ?_; simp -implicitDefEqProofs (maxSteps := 1000000) (disch := first | (simp only [nat4_length, nat8_length, arr_length, iarr_length, List.length_cons, List.length_nil, Nat.reduceAdd]; done) | omega) only [vcR, vcT, Int.reduceBEq, Int.reduceBNe, Int.reduceEq, Int.reduceNe, Ab.part, Nat.reduceAdd, Nat.reduceMul, Nat.reduceLeDiff, Nat.reduceEqDiff, Nat.reduceBEq, Nat.reduceBNe, reduceCtorEq, ↓reduceIte, implies_true, forall_const, Int.reduceNeg, Int.reduceToNat, Int.reduceLT, Int.reduceLE, Int.reduceAdd, Int.reduceSub, Int.reduceMul, Int.reducePow, Nat.reducePow, Try.f18, List.toList_toArray]))
end Go.Proofs.Ytpikjhpbldocnaa
