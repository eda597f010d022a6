/-
  Texts laid together: L1, L2, L3, L4, L5, L6, L6b, L7, L8, L9, L10.
-/
import Derived.Shelf.Spec.BitsCarry
import Derived.Test.YtdmcknmjdlghgaaGreatDoorV01
import Derived.Test.YtdmcknmjdlghgaaGreatDoorV02
import Derived.Test.YtdmcknmjdlghgaaGreatDoorV03
/-
  What the library's own functions answer: sums and differences with what goes over, products, lengths.
-/
namespace Go.Proofs.YtdmcknmjdlghgaaGreatDoor
open Go Go.Ab
set_option linter.unusedSimpArgs false
set_option linter.unusedVariables false
theorem dzSKL {p : Prop} (h : p := by first | (simp only [nat4_length, nat8_length, arr_length, iarr_length, List.length_cons, List.length_nil, Nat.reduceAdd]; done) | omega) : p := h
theorem add64_x (x y c : Nat) (hc : c ≤ 1) : ExtC Tryz.prog 98 [.s (.v (.int .u64 (x : Int))), .s (.v (.int .u64 (y : Int))), .s (.v (.int .u64 (c : Int)))]
    (.tup [.s (.v (.int .u64 (((x + y + c) % 18446744073709551616 : Nat) : Int))), .s (.v (.int .u64 (((x + y + c) / 18446744073709551616 : Nat) : Int)))]) := by
  intro β w
  show (callFunc 98 #[.int .u64 (x : Int), .int .u64 (y : Int), .int .u64 (c : Int)]).run _ _ = _
  rw [run_callFunc_extern Tryz.func98 (by kernel_rfl) (by kernel_rfl) (by kernel_rfl) (e := add64Entry) (by kernel_rfl), run_add64 _ _ _ (by omega) (by omega) (by omega) (by omega)]
  rfl
theorem sub64_x (x y c : Nat) (hc : c ≤ 1) : ExtC Tryz.prog 99 [.s (.v (.int .u64 (x : Int))), .s (.v (.int .u64 (y : Int))), .s (.v (.int .u64 (c : Int)))]
    (.tup [.s (.v (.int .u64 (((x + 18446744073709551616 - y - c) % 18446744073709551616 : Nat) : Int))), .s (.v (.int .u64 ((if x < y + c then 1 else 0 : Nat) : Int)))]) := by
  intro β w
  show (callFunc 99 #[.int .u64 (x : Int), .int .u64 (y : Int), .int .u64 (c : Int)]).run _ _ = _
  rw [run_callFunc_extern Tryz.func99 (by kernel_rfl) (by kernel_rfl) (by kernel_rfl) (e := sub64Entry) (by kernel_rfl), run_sub64 _ _ _ hc]
  rfl
theorem mul64_p (x y : Nat) (hx : x < 18446744073709551616) (hy : y < 18446744073709551616) : PureC Tryz.prog 97 [.s (.v (.int .u64 (x : Int))), .s (.v (.int .u64 (y : Int)))]
    (.tup [.s (.v (.int .u64 ((x * y / 18446744073709551616 : Nat) : Int))), .s (.v (.int .u64 ((x * y % 18446744073709551616 : Nat) : Int)))]) :=
  pureC_lib (fun _ => rfl) (fun _ => rfl) fun w => Any.bits_Mul64 YtdmcknmjdlghgaaGreatDoorlays264 x y hx hy w
theorem len64_p (x : Nat) (hx : x < 18446744073709551616) : PureC Tryz.prog 84 [.s (.v (.int .u64 (x : Int)))]
    (.s (.v (.int .i64 (Lib.bitLen x : Int)))) :=
  pureC_lib (fun _ => rfl) (fun _ => rfl) fun w => Any.bits_Len64 YtdmcknmjdlghgaaGreatDoorlays129 x w (by omega) (by omega)
end Go.Proofs.YtdmcknmjdlghgaaGreatDoor
/-
  The walks of limb's functions that reckon.
-/
namespace Go.Proofs.YtdmcknmjdlghgaaGreatDoor
open Go Go.Ab
set_option linter.unusedSimpArgs false
set_option linter.unusedVariables false
set_option maxHeartbeats 20000000
theorem add_c (a b : Nat) (ha : a < 2 ^ 256) (hb : b < 2 ^ 256) : PureC Tryz.prog 88 [.agg (nat4 a), .agg (nat4 b)] (.tup [.agg (nat4 (a + b)), .s (.v (.int .u64 (((a + b) / 2 ^ 256 : Nat) : Int)))]) := by
  refine pureC_of Tryz.func88 rfl (by simp only [List.length_cons, List.length_nil, List.map_cons, List.map_nil, List.nodup_cons, List.nodup_nil, List.mem_cons, Nat.reduceAdd, Nat.reduceEqDiff, or_false, not_false_eq_true, forall_eq_or_imp, forall_eq, or_self, Nat.reduceLT, Nat.reduceLeDiff, and_self, List.forall_mem_cons, List.not_mem_nil, false_implies, implies_true, and_true, true_and, okv_p, okv_sl, oks_s, oks_agg, oks_tup, oka_s, oka_agg, okv_v, nat4_okk, nat8_okk, arr_okk, iarr_okk]) (by simp only [List.length_cons, List.length_nil, List.map_cons, List.map_nil, List.nodup_cons, List.nodup_nil, List.mem_cons, Nat.reduceAdd, Nat.reduceEqDiff, or_false, not_false_eq_true, forall_eq_or_imp, forall_eq, or_self, Nat.reduceLT, Nat.reduceLeDiff, and_self, List.forall_mem_cons, List.not_mem_nil, false_implies, implies_true, and_true, true_and, okv_p, okv_sl, oks_s, oks_agg, oks_tup, oka_s, oka_agg, okv_v, nat4_okk, nat8_okk, arr_okk, iarr_okk]) fun w => ?_
  simp only [List.length_cons, List.length_nil, Tryz.ntmps88, Nat.reduceAdd, Nat.reduceSub, List.replicate_succ, List.replicate_zero, List.cons_append, List.nil_append]
  (repeat (refine X_of _ ?_; simp -implicitDefEqProofs (maxSteps := 1000000) (disch := first | exact dzSKL | fail) only [vcR, vcT, simprocAttr, Ab.part, implies_true, forall_const, Tryz.f88, List.toList_toArray]))
  refine X_loop (ι := Nat) (fun k => k ≤ 4) (fun k => 4 - k) [5, 6, 7, 8, 9, 10, 11, 12, 13, 14, 15, 16, 17, 18, 19, 20, 21, 22, 23]
    (fun k => [(5, .s (.v (.int .u64 (cy a b k : Nat)))), (7, .s (.v (.int .i64 (k : Nat))))])
    (fun k => [(2, arr 4 fun i => if i < k then wd (a + b) i else 0)]) 0 (shape_of fun i => ?_) (by decide) ?_ ?_
  · simp only [List.length_cons, List.length_nil, List.map_cons, List.map_nil, List.nodup_cons, List.nodup_nil, List.mem_cons, Nat.reduceAdd, Nat.reduceEqDiff, or_false, not_false_eq_true, forall_eq_or_imp, forall_eq, or_self, Nat.reduceLT, Nat.reduceLeDiff, and_self, List.forall_mem_cons, List.not_mem_nil, false_implies, implies_true, and_true, true_and, okv_p, okv_sl, oks_s, oks_agg, oks_tup, oka_s, oka_agg, okv_v, nat4_okk, nat8_okk, arr_okk, iarr_okk]
  · simp -implicitDefEqProofs (maxSteps := 1000000) (disch := first | exact dzSKL | fail) only [vcR, vcT, simprocAttr, Ab.part, implies_true, forall_const, Tryz.f88, List.toList_toArray, again_eq]
    simp [cy_zero]
  · intro k us hk
    (repeat (refine X_of _ ?_; simp -implicitDefEqProofs (maxSteps := 1000000) (disch := first | exact dzSKL | fail) only [vcR, vcT, simprocAttr, Ab.part, implies_true, forall_const, Tryz.f88, List.toList_toArray, nat4]))
    refine ⟨fun h => ?_, fun h => ?_⟩
    · (repeat (refine X_of _ ?_; simp -implicitDefEqProofs (maxSteps := 1000000) (disch := first | exact dzSKL | fail) only [vcR, vcT, simprocAttr, Ab.part, implies_true, forall_const, Tryz.f88, List.toList_toArray]))
      (refine X_draw 13 (by kernel_rfl) (by kernel_rfl) ?_; simp only [List.take_succ_cons, List.take_zero, List.drop_succ_cons, List.drop_zero]; simp -implicitDefEqProofs (maxSteps := 1000000) (disch := first | exact dzSKL | fail) only [vcR, vcT, simprocAttr, Ab.part, implies_true, forall_const, Tryz.f88, List.toList_toArray, arr_get])
      (apply xcallV_ext; exact (add64_x (wd a k) (wd b k) (cy a b k) (cy_le a b k)); simp only [List.length_cons, List.length_nil, List.map_cons, List.map_nil, List.nodup_cons, List.nodup_nil, List.mem_cons, Nat.reduceAdd, Nat.reduceEqDiff, or_false, not_false_eq_true, forall_eq_or_imp, forall_eq, or_self, Nat.reduceLT, Nat.reduceLeDiff, and_self, List.forall_mem_cons, List.not_mem_nil, false_implies, implies_true, and_true, true_and, okv_p, okv_sl, oks_s, oks_agg, oks_tup, oka_s, oka_agg, okv_v, nat4_okk, nat8_okk, arr_okk, iarr_okk]; try simp -implicitDefEqProofs (maxSteps := 1000000) (disch := first | exact dzSKL | fail) only [vcR, vcT, simprocAttr, Ab.part, implies_true, forall_const, Tryz.f88, List.toList_toArray, arr_set])
      (repeat (refine X_of _ ?_; simp -implicitDefEqProofs (maxSteps := 1000000) (disch := first | exact dzSKL | fail) only [vcR, vcT, simprocAttr, Ab.part, implies_true, forall_const, Tryz.f88, List.toList_toArray]))
      have hc := cy_add a b k
      have hw := wd_lt (a + b) k
      refine ⟨k + 1, by omega, ?_⟩
      simp -implicitDefEqProofs (maxSteps := 1000000) (disch := first | exact dzSKL | fail) only [vcR, vcT, simprocAttr, Ab.part, implies_true, forall_const, Tryz.f88, List.toList_toArray, again_eq]
      exact ⟨by omega, _, arr_congr fun i hi => upd_word (by omega), rfl⟩
    · (repeat (refine X_of _ ?_; simp -implicitDefEqProofs (maxSteps := 1000000) (disch := first | exact dzSKL | fail) only [vcR, vcT, simprocAttr, Ab.part, implies_true, forall_const, Tryz.f88, List.toList_toArray]))
      have : k = 4 := by omega
      subst this
      refine ⟨arr_congr fun i hi => if_pos hi, ?_⟩
      rw [cy_four a b ha hb]
theorem sub_c (a b d c : Nat) (ha : a < 2 ^ 256) (hb : b < 2 ^ 256) (hd : d < 2 ^ 256) (he : d + b = a + 2 ^ 256 * c) : PureC Tryz.prog 89 [.agg (nat4 a), .agg (nat4 b)] (.tup [.agg (nat4 d), .s (.v (.int .u64 (c : Int)))]) := by
  refine pureC_of Tryz.func89 rfl (by simp only [List.length_cons, List.length_nil, List.map_cons, List.map_nil, List.nodup_cons, List.nodup_nil, List.mem_cons, Nat.reduceAdd, Nat.reduceEqDiff, or_false, not_false_eq_true, forall_eq_or_imp, forall_eq, or_self, Nat.reduceLT, Nat.reduceLeDiff, and_self, List.forall_mem_cons, List.not_mem_nil, false_implies, implies_true, and_true, true_and, okv_p, okv_sl, oks_s, oks_agg, oks_tup, oka_s, oka_agg, okv_v, nat4_okk, nat8_okk, arr_okk, iarr_okk]) (by simp only [List.length_cons, List.length_nil, List.map_cons, List.map_nil, List.nodup_cons, List.nodup_nil, List.mem_cons, Nat.reduceAdd, Nat.reduceEqDiff, or_false, not_false_eq_true, forall_eq_or_imp, forall_eq, or_self, Nat.reduceLT, Nat.reduceLeDiff, and_self, List.forall_mem_cons, List.not_mem_nil, false_implies, implies_true, and_true, true_and, okv_p, okv_sl, oks_s, oks_agg, oks_tup, oka_s, oka_agg, okv_v, nat4_okk, nat8_okk, arr_okk, iarr_okk]) fun w => ?_
  simp only [List.length_cons, List.length_nil, Tryz.ntmps89, Nat.reduceAdd, Nat.reduceSub, List.replicate_succ, List.replicate_zero, List.cons_append, List.nil_append]
  (repeat (refine X_of _ ?_; simp -implicitDefEqProofs (maxSteps := 1000000) (disch := first | exact dzSKL | fail) only [vcR, vcT, simprocAttr, Ab.part, implies_true, forall_const, Tryz.f89, List.toList_toArray]))
  refine X_loop (ι := Nat) (fun k => k ≤ 4) (fun k => 4 - k) [5, 6, 7, 8, 9, 10, 11, 12, 13, 14, 15, 16, 17, 18, 19, 20, 21, 22, 23]
    (fun k => [(5, .s (.v (.int .u64 (cy d b k : Nat)))), (7, .s (.v (.int .i64 (k : Nat))))])
    (fun k => [(2, arr 4 fun i => if i < k then wd d i else 0)]) 0 (shape_of fun i => ?_) (by decide) ?_ ?_
  · simp only [List.length_cons, List.length_nil, List.map_cons, List.map_nil, List.nodup_cons, List.nodup_nil, List.mem_cons, Nat.reduceAdd, Nat.reduceEqDiff, or_false, not_false_eq_true, forall_eq_or_imp, forall_eq, or_self, Nat.reduceLT, Nat.reduceLeDiff, and_self, List.forall_mem_cons, List.not_mem_nil, false_implies, implies_true, and_true, true_and, okv_p, okv_sl, oks_s, oks_agg, oks_tup, oka_s, oka_agg, okv_v, nat4_okk, nat8_okk, arr_okk, iarr_okk]
  · simp -implicitDefEqProofs (maxSteps := 1000000) (disch := first | exact dzSKL | fail) only [vcR, vcT, simprocAttr, Ab.part, implies_true, forall_const, Tryz.f89, List.toList_toArray, again_eq]
    simp [cy_zero]
  · intro k us hk
    (repeat (refine X_of _ ?_; simp -implicitDefEqProofs (maxSteps := 1000000) (disch := first | exact dzSKL | fail) only [vcR, vcT, simprocAttr, Ab.part, implies_true, forall_const, Tryz.f89, List.toList_toArray, nat4]))
    refine ⟨fun h => ?_, fun h => ?_⟩
    · (repeat (refine X_of _ ?_; simp -implicitDefEqProofs (maxSteps := 1000000) (disch := first | exact dzSKL | fail) only [vcR, vcT, simprocAttr, Ab.part, implies_true, forall_const, Tryz.f89, List.toList_toArray]))
      (refine X_draw 13 (by kernel_rfl) (by kernel_rfl) ?_; simp only [List.take_succ_cons, List.take_zero, List.drop_succ_cons, List.drop_zero]; simp -implicitDefEqProofs (maxSteps := 1000000) (disch := first | exact dzSKL | fail) only [vcR, vcT, simprocAttr, Ab.part, implies_true, forall_const, Tryz.f89, List.toList_toArray, arr_get])
      (apply xcallV_ext; exact (sub64_x (wd a k) (wd b k) (cy d b k) (cy_le d b k)); simp only [List.length_cons, List.length_nil, List.map_cons, List.map_nil, List.nodup_cons, List.nodup_nil, List.mem_cons, Nat.reduceAdd, Nat.reduceEqDiff, or_false, not_false_eq_true, forall_eq_or_imp, forall_eq, or_self, Nat.reduceLT, Nat.reduceLeDiff, and_self, List.forall_mem_cons, List.not_mem_nil, false_implies, implies_true, and_true, true_and, okv_p, okv_sl, oks_s, oks_agg, oks_tup, oka_s, oka_agg, okv_v, nat4_okk, nat8_okk, arr_okk, iarr_okk]; try simp -implicitDefEqProofs (maxSteps := 1000000) (disch := first | exact dzSKL | fail) only [vcR, vcT, simprocAttr, Ab.part, implies_true, forall_const, Tryz.f89, List.toList_toArray, arr_set])
      (repeat (refine X_of _ ?_; simp -implicitDefEqProofs (maxSteps := 1000000) (disch := first | exact dzSKL | fail) only [vcR, vcT, simprocAttr, Ab.part, implies_true, forall_const, Tryz.f89, List.toList_toArray]))
      have hc := cy_add d b k
      rw [he, wd_four_add a c k (by omega)] at hc
      have hw := wd_lt d k
      have hw1 := wd_lt a k
      have hw2 := wd_lt b k
      have h1 := cy_le d b k
      have h2 := cy_le d b (k + 1)
      refine ⟨k + 1, by omega, ?_⟩
      simp -implicitDefEqProofs (maxSteps := 1000000) (disch := first | exact dzSKL | fail) only [vcR, vcT, simprocAttr, Ab.part, implies_true, forall_const, Tryz.f89, List.toList_toArray, again_eq]
      exact ⟨by split <;> omega, _, arr_congr fun i hi => upd_word (by omega), rfl⟩
    · (repeat (refine X_of _ ?_; simp -implicitDefEqProofs (maxSteps := 1000000) (disch := first | exact dzSKL | fail) only [vcR, vcT, simprocAttr, Ab.part, implies_true, forall_const, Tryz.f89, List.toList_toArray]))
      have : k = 4 := by omega
      subst this
      refine ⟨arr_congr fun i hi => if_pos hi, ?_⟩
      rw [cy_four d b hd hb, he]
      omega
end Go.Proofs.YtdmcknmjdlghgaaGreatDoor
namespace Go.Proofs.YtdmcknmjdlghgaaGreatDoor
open Go Go.Ab
set_option linter.unusedSimpArgs false
set_option linter.unusedVariables false
set_option maxHeartbeats 20000000
theorem cmp_c (a b : Nat) (ha : a < 2 ^ 256) (hb : b < 2 ^ 256) : PureC Tryz.prog 48 [.agg (nat4 a), .agg (nat4 b)] (.s (.v (.int .i64 (sg a b)))) := by
  refine pureC_of Tryz.func48 rfl (by simp only [List.length_cons, List.length_nil, List.map_cons, List.map_nil, List.nodup_cons, List.nodup_nil, List.mem_cons, Nat.reduceAdd, Nat.reduceEqDiff, or_false, not_false_eq_true, forall_eq_or_imp, forall_eq, or_self, Nat.reduceLT, Nat.reduceLeDiff, and_self, List.forall_mem_cons, List.not_mem_nil, false_implies, implies_true, and_true, true_and, okv_p, okv_sl, oks_s, oks_agg, oks_tup, oka_s, oka_agg, okv_v, nat4_okk, nat8_okk, arr_okk, iarr_okk]) (by simp only [List.length_cons, List.length_nil, List.map_cons, List.map_nil, List.nodup_cons, List.nodup_nil, List.mem_cons, Nat.reduceAdd, Nat.reduceEqDiff, or_false, not_false_eq_true, forall_eq_or_imp, forall_eq, or_self, Nat.reduceLT, Nat.reduceLeDiff, and_self, List.forall_mem_cons, List.not_mem_nil, false_implies, implies_true, and_true, true_and, okv_p, okv_sl, oks_s, oks_agg, oks_tup, oka_s, oka_agg, okv_v, nat4_okk, nat8_okk, arr_okk, iarr_okk]) fun w => ?_
  simp only [List.length_cons, List.length_nil, Tryz.ntmps48, Nat.reduceAdd, Nat.reduceSub, List.replicate_succ, List.replicate_zero, List.cons_append, List.nil_append]
  (repeat (refine X_of _ ?_; simp -implicitDefEqProofs (maxSteps := 1000000) (disch := first | (simp only [nat4_length, nat8_length, arr_length, iarr_length, List.length_cons, List.length_nil, Nat.reduceAdd]; done) | omega) only [vcR, vcT, Int.reduceBEq, Int.reduceBNe, Int.reduceEq, Int.reduceNe, Ab.part, Nat.reduceAdd, Nat.reduceMul, Nat.reduceLeDiff, Nat.reduceEqDiff, Nat.reduceBEq, Nat.reduceBNe, reduceCtorEq, ↓reduceIte, implies_true, forall_const, Int.reduceNeg, Int.reduceToNat, Int.reduceLT, Int.reduceLE, Int.reduceAdd, Int.reduceSub, Int.reduceMul, Int.reducePow, Nat.reducePow, Tryz.f48, List.toList_toArray]))
  refine X_loop (ι := Nat) (fun k => k ≤ 4 ∧ a / 2 ^ (64 * (4 - k)) = b / 2 ^ (64 * (4 - k))) (fun k => 4 - k) [5, 6, 7, 8, 9, 10, 11, 12, 13, 14, 15, 16, 17, 18, 19, 20, 21, 22, 23, 24, 25, 26, 27, 28, 29, 30]
    (fun k => [(5, .s (.v (.int .i64 0))), (8, .s (.v (.int .i64 (k : Nat))))])
    (fun k => []) 0 (shape_of fun i => ?_) (by decide) ?_ ?_
  · simp only [List.length_cons, List.length_nil, List.map_cons, List.map_nil, List.nodup_cons, List.nodup_nil, List.mem_cons, Nat.reduceAdd, Nat.reduceEqDiff, or_false, not_false_eq_true, forall_eq_or_imp, forall_eq, or_self, Nat.reduceLT, Nat.reduceLeDiff, and_self, List.forall_mem_cons, List.not_mem_nil, false_implies, implies_true, and_true, true_and, okv_p, okv_sl, oks_s, oks_agg, oks_tup, oka_s, oka_agg, okv_v, nat4_okk, nat8_okk, arr_okk, iarr_okk]
  · simp -implicitDefEqProofs (maxSteps := 1000000) (disch := first | (simp only [nat4_length, nat8_length, arr_length, iarr_length, List.length_cons, List.length_nil, Nat.reduceAdd]; done) | omega) only [vcR, vcT, Int.reduceBEq, Int.reduceBNe, Int.reduceEq, Int.reduceNe, Ab.part, Nat.reduceAdd, Nat.reduceMul, Nat.reduceLeDiff, Nat.reduceEqDiff, Nat.reduceBEq, Nat.reduceBNe, reduceCtorEq, ↓reduceIte, implies_true, forall_const, Int.reduceNeg, Int.reduceToNat, Int.reduceLT, Int.reduceLE, Int.reduceAdd, Int.reduceSub, Int.reduceMul, Int.reducePow, Nat.reducePow, Tryz.f48, List.toList_toArray, again_eq]
    exact ⟨by rw [Nat.div_eq_of_lt ha, Nat.div_eq_of_lt hb], _, rfl⟩
  · rintro k us ⟨hk, he⟩
    (repeat (refine X_of _ ?_; simp -implicitDefEqProofs (maxSteps := 1000000) (disch := first | (simp only [nat4_length, nat8_length, arr_length, iarr_length, List.length_cons, List.length_nil, Nat.reduceAdd]; done) | omega) only [vcR, vcT, Int.reduceBEq, Int.reduceBNe, Int.reduceEq, Int.reduceNe, Ab.part, Nat.reduceAdd, Nat.reduceMul, Nat.reduceLeDiff, Nat.reduceEqDiff, Nat.reduceBEq, Nat.reduceBNe, reduceCtorEq, ↓reduceIte, implies_true, forall_const, Int.reduceNeg, Int.reduceToNat, Int.reduceLT, Int.reduceLE, Int.reduceAdd, Int.reduceSub, Int.reduceMul, Int.reducePow, Nat.reducePow, Tryz.f48, List.toList_toArray, nat4]))
    refine ⟨fun h => ?_, fun h => ?_⟩
    · (repeat (refine X_of _ ?_; simp -implicitDefEqProofs (maxSteps := 1000000) (disch := first | (simp only [nat4_length, nat8_length, arr_length, iarr_length, List.length_cons, List.length_nil, Nat.reduceAdd]; done) | omega) only [vcR, vcT, Int.reduceBEq, Int.reduceBNe, Int.reduceEq, Int.reduceNe, Ab.part, Nat.reduceAdd, Nat.reduceMul, Nat.reduceLeDiff, Nat.reduceEqDiff, Nat.reduceBEq, Nat.reduceBNe, reduceCtorEq, ↓reduceIte, implies_true, forall_const, Int.reduceNeg, Int.reduceToNat, Int.reduceLT, Int.reduceLE, Int.reduceAdd, Int.reduceSub, Int.reduceMul, Int.reducePow, Nat.reducePow, Tryz.f48, List.toList_toArray]))
      (refine X_draw 8 (by kernel_rfl) (by kernel_rfl) ?_; simp only [List.take_succ_cons, List.take_zero, List.drop_succ_cons, List.drop_zero]; simp -implicitDefEqProofs (maxSteps := 1000000) (disch := first | (simp only [nat4_length, nat8_length, arr_length, iarr_length, List.length_cons, List.length_nil, Nat.reduceAdd]; done) | omega) only [vcR, vcT, Int.reduceBEq, Int.reduceBNe, Int.reduceEq, Int.reduceNe, Ab.part, Nat.reduceAdd, Nat.reduceMul, Nat.reduceLeDiff, Nat.reduceEqDiff, Nat.reduceBEq, Nat.reduceBNe, reduceCtorEq, ↓reduceIte, implies_true, forall_const, Int.reduceNeg, Int.reduceToNat, Int.reduceLT, Int.reduceLE, Int.reduceAdd, Int.reduceSub, Int.reduceMul, Int.reducePow, Nat.reducePow, Tryz.f48, List.toList_toArray, arr_get])
      have e1 : 4 - k = 3 - k + 1 := by omega
      rw [e1] at he
      (repeat (refine X_of _ ?_; simp -implicitDefEqProofs (maxSteps := 1000000) (disch := first | (simp only [nat4_length, nat8_length, arr_length, iarr_length, List.length_cons, List.length_nil, Nat.reduceAdd]; done) | omega) only [vcR, vcT, Int.reduceBEq, Int.reduceBNe, Int.reduceEq, Int.reduceNe, Ab.part, Nat.reduceAdd, Nat.reduceMul, Nat.reduceLeDiff, Nat.reduceEqDiff, Nat.reduceBEq, Nat.reduceBNe, reduceCtorEq, ↓reduceIte, implies_true, forall_const, Int.reduceNeg, Int.reduceToNat, Int.reduceLT, Int.reduceLE, Int.reduceAdd, Int.reduceSub, Int.reduceMul, Int.reducePow, Nat.reducePow, Tryz.f48, List.toList_toArray]))
      refine ⟨fun h1 => ?_, fun h1 => ?_⟩
      · (repeat (refine X_of _ ?_; simp -implicitDefEqProofs (maxSteps := 1000000) (disch := first | (simp only [nat4_length, nat8_length, arr_length, iarr_length, List.length_cons, List.length_nil, Nat.reduceAdd]; done) | omega) only [vcR, vcT, Int.reduceBEq, Int.reduceBNe, Int.reduceEq, Int.reduceNe, Ab.part, Nat.reduceAdd, Nat.reduceMul, Nat.reduceLeDiff, Nat.reduceEqDiff, Nat.reduceBEq, Nat.reduceBNe, reduceCtorEq, ↓reduceIte, implies_true, forall_const, Int.reduceNeg, Int.reduceToNat, Int.reduceLT, Int.reduceLE, Int.reduceAdd, Int.reduceSub, Int.reduceMul, Int.reducePow, Nat.reducePow, Tryz.f48, List.toList_toArray]))
        exact (sg_lt he (by omega)).symm
      · (repeat (refine X_of _ ?_; simp -implicitDefEqProofs (maxSteps := 1000000) (disch := first | (simp only [nat4_length, nat8_length, arr_length, iarr_length, List.length_cons, List.length_nil, Nat.reduceAdd]; done) | omega) only [vcR, vcT, Int.reduceBEq, Int.reduceBNe, Int.reduceEq, Int.reduceNe, Ab.part, Nat.reduceAdd, Nat.reduceMul, Nat.reduceLeDiff, Nat.reduceEqDiff, Nat.reduceBEq, Nat.reduceBNe, reduceCtorEq, ↓reduceIte, implies_true, forall_const, Int.reduceNeg, Int.reduceToNat, Int.reduceLT, Int.reduceLE, Int.reduceAdd, Int.reduceSub, Int.reduceMul, Int.reducePow, Nat.reducePow, Tryz.f48, List.toList_toArray]))
        (refine X_draw 8 (by kernel_rfl) (by kernel_rfl) ?_; simp only [List.take_succ_cons, List.take_zero, List.drop_succ_cons, List.drop_zero]; simp -implicitDefEqProofs (maxSteps := 1000000) (disch := first | (simp only [nat4_length, nat8_length, arr_length, iarr_length, List.length_cons, List.length_nil, Nat.reduceAdd]; done) | omega) only [vcR, vcT, Int.reduceBEq, Int.reduceBNe, Int.reduceEq, Int.reduceNe, Ab.part, Nat.reduceAdd, Nat.reduceMul, Nat.reduceLeDiff, Nat.reduceEqDiff, Nat.reduceBEq, Nat.reduceBNe, reduceCtorEq, ↓reduceIte, implies_true, forall_const, Int.reduceNeg, Int.reduceToNat, Int.reduceLT, Int.reduceLE, Int.reduceAdd, Int.reduceSub, Int.reduceMul, Int.reducePow, Nat.reducePow, Tryz.f48, List.toList_toArray, arr_get])
        (repeat (refine X_of _ ?_; simp -implicitDefEqProofs (maxSteps := 1000000) (disch := first | (simp only [nat4_length, nat8_length, arr_length, iarr_length, List.length_cons, List.length_nil, Nat.reduceAdd]; done) | omega) only [vcR, vcT, Int.reduceBEq, Int.reduceBNe, Int.reduceEq, Int.reduceNe, Ab.part, Nat.reduceAdd, Nat.reduceMul, Nat.reduceLeDiff, Nat.reduceEqDiff, Nat.reduceBEq, Nat.reduceBNe, reduceCtorEq, ↓reduceIte, implies_true, forall_const, Int.reduceNeg, Int.reduceToNat, Int.reduceLT, Int.reduceLE, Int.reduceAdd, Int.reduceSub, Int.reduceMul, Int.reducePow, Nat.reducePow, Tryz.f48, List.toList_toArray]))
        refine ⟨fun h2 => ?_, fun h2 => ?_⟩
        · (repeat (refine X_of _ ?_; simp -implicitDefEqProofs (maxSteps := 1000000) (disch := first | (simp only [nat4_length, nat8_length, arr_length, iarr_length, List.length_cons, List.length_nil, Nat.reduceAdd]; done) | omega) only [vcR, vcT, Int.reduceBEq, Int.reduceBNe, Int.reduceEq, Int.reduceNe, Ab.part, Nat.reduceAdd, Nat.reduceMul, Nat.reduceLeDiff, Nat.reduceEqDiff, Nat.reduceBEq, Nat.reduceBNe, reduceCtorEq, ↓reduceIte, implies_true, forall_const, Int.reduceNeg, Int.reduceToNat, Int.reduceLT, Int.reduceLE, Int.reduceAdd, Int.reduceSub, Int.reduceMul, Int.reducePow, Nat.reducePow, Tryz.f48, List.toList_toArray]))
          exact (sg_gt he (by omega)).symm
        · (repeat (refine X_of _ ?_; simp -implicitDefEqProofs (maxSteps := 1000000) (disch := first | (simp only [nat4_length, nat8_length, arr_length, iarr_length, List.length_cons, List.length_nil, Nat.reduceAdd]; done) | omega) only [vcR, vcT, Int.reduceBEq, Int.reduceBNe, Int.reduceEq, Int.reduceNe, Ab.part, Nat.reduceAdd, Nat.reduceMul, Nat.reduceLeDiff, Nat.reduceEqDiff, Nat.reduceBEq, Nat.reduceBNe, reduceCtorEq, ↓reduceIte, implies_true, forall_const, Int.reduceNeg, Int.reduceToNat, Int.reduceLT, Int.reduceLE, Int.reduceAdd, Int.reduceSub, Int.reduceMul, Int.reducePow, Nat.reducePow, Tryz.f48, List.toList_toArray]))
          refine ⟨k + 1, by omega, ?_⟩
          simp -implicitDefEqProofs (maxSteps := 1000000) (disch := first | (simp only [nat4_length, nat8_length, arr_length, iarr_length, List.length_cons, List.length_nil, Nat.reduceAdd]; done) | omega) only [vcR, vcT, Int.reduceBEq, Int.reduceBNe, Int.reduceEq, Int.reduceNe, Ab.part, Nat.reduceAdd, Nat.reduceMul, Nat.reduceLeDiff, Nat.reduceEqDiff, Nat.reduceBEq, Nat.reduceBNe, reduceCtorEq, ↓reduceIte, implies_true, forall_const, Int.reduceNeg, Int.reduceToNat, Int.reduceLT, Int.reduceLE, Int.reduceAdd, Int.reduceSub, Int.reduceMul, Int.reducePow, Nat.reducePow, Tryz.f48, List.toList_toArray, again_eq]
          refine ⟨?_, _, rfl⟩
          rw [show 4 - (k + 1) = 3 - k by omega, dv_step a, dv_step b, he]
          omega
    · (repeat (refine X_of _ ?_; simp -implicitDefEqProofs (maxSteps := 1000000) (disch := first | (simp only [nat4_length, nat8_length, arr_length, iarr_length, List.length_cons, List.length_nil, Nat.reduceAdd]; done) | omega) only [vcR, vcT, Int.reduceBEq, Int.reduceBNe, Int.reduceEq, Int.reduceNe, Ab.part, Nat.reduceAdd, Nat.reduceMul, Nat.reduceLeDiff, Nat.reduceEqDiff, Nat.reduceBEq, Nat.reduceBNe, reduceCtorEq, ↓reduceIte, implies_true, forall_const, Int.reduceNeg, Int.reduceToNat, Int.reduceLT, Int.reduceLE, Int.reduceAdd, Int.reduceSub, Int.reduceMul, Int.reducePow, Nat.reducePow, Tryz.f48, List.toList_toArray]))
      have : k = 4 := by omega
      subst this
      simp only [Nat.sub_self, Nat.mul_zero, Nat.pow_zero, Nat.div_one] at he
      simp [sg, he]
end Go.Proofs.YtdmcknmjdlghgaaGreatDoor
namespace Go.Proofs.YtdmcknmjdlghgaaGreatDoor
open Go Go.Ab
set_option linter.unusedSimpArgs false
set_option linter.unusedVariables false
set_option maxHeartbeats 20000000
theorem bit_c (a : Nat) (i : Int) : PureC Tryz.prog 70 [.agg (nat4 a), .s (.v (.int .i64 i))] (.s (.v (.int .u64 ((if i < 0 ∨ 256 ≤ i then 0 else a / 2 ^ i.toNat % 2 : Nat) : Int)))) := by
  refine pureC_of Tryz.func70 rfl (by simp only [List.length_cons, List.length_nil, List.map_cons, List.map_nil, List.nodup_cons, List.nodup_nil, List.mem_cons, Nat.reduceAdd, Nat.reduceEqDiff, or_false, not_false_eq_true, forall_eq_or_imp, forall_eq, or_self, Nat.reduceLT, Nat.reduceLeDiff, and_self, List.forall_mem_cons, List.not_mem_nil, false_implies, implies_true, and_true, true_and, okv_p, okv_sl, oks_s, oks_agg, oks_tup, oka_s, oka_agg, okv_v, nat4_okk, nat8_okk, arr_okk, iarr_okk]) (by simp only [List.length_cons, List.length_nil, List.map_cons, List.map_nil, List.nodup_cons, List.nodup_nil, List.mem_cons, Nat.reduceAdd, Nat.reduceEqDiff, or_false, not_false_eq_true, forall_eq_or_imp, forall_eq, or_self, Nat.reduceLT, Nat.reduceLeDiff, and_self, List.forall_mem_cons, List.not_mem_nil, false_implies, implies_true, and_true, true_and, okv_p, okv_sl, oks_s, oks_agg, oks_tup, oka_s, oka_agg, okv_v, nat4_okk, nat8_okk, arr_okk, iarr_okk]) fun w => ?_
  simp only [List.length_cons, List.length_nil, Tryz.ntmps70, Nat.reduceAdd, Nat.reduceSub, List.replicate_succ, List.replicate_zero, List.cons_append, List.nil_append]
  by_cases h : i < 0
  · (repeat (refine X_of _ ?_; simp -implicitDefEqProofs (maxSteps := 1000000) (disch := first | exact dzSKL | fail) only [vcR, vcT, simprocAttr, Ab.part, implies_true, forall_const, Tryz.f70, List.toList_toArray]))
    try simp [h]
  by_cases h1 : 256 ≤ i
  · (repeat (refine X_of _ ?_; simp -implicitDefEqProofs (maxSteps := 1000000) (disch := first | exact dzSKL | fail) only [vcR, vcT, simprocAttr, Ab.part, implies_true, forall_const, Tryz.f70, List.toList_toArray]))
    try simp [h1]
  obtain ⟨i, rfl⟩ := Int.eq_ofNat_of_zero_le (a := i) (by omega)
  have hw := wd_lt a (i / 64)
  have hs : wd a (i / 64) / 2 ^ (i % 64) < 18446744073709551616 := Nat.lt_of_le_of_lt (Nat.div_le_self _ _) hw
  (repeat (refine X_of _ ?_; simp -implicitDefEqProofs (maxSteps := 1000000) (disch := first | exact dzSKL | fail) only [vcR, vcT, simprocAttr, Ab.part, implies_true, forall_const, Tryz.f70, List.toList_toArray, nat4, arr_get]))
  rw [wd_bit]
theorem word_c (a : Nat) (i : Int) : PureC Tryz.prog 108 [.agg (nat4 a), .s (.v (.int .i64 i))] (.s (.v (.int .u64 ((if i < 0 ∨ 4 ≤ i then 0 else wd a i.toNat : Nat) : Int)))) := by
  refine pureC_of Tryz.func108 rfl (by simp only [List.length_cons, List.length_nil, List.map_cons, List.map_nil, List.nodup_cons, List.nodup_nil, List.mem_cons, Nat.reduceAdd, Nat.reduceEqDiff, or_false, not_false_eq_true, forall_eq_or_imp, forall_eq, or_self, Nat.reduceLT, Nat.reduceLeDiff, and_self, List.forall_mem_cons, List.not_mem_nil, false_implies, implies_true, and_true, true_and, okv_p, okv_sl, oks_s, oks_agg, oks_tup, oka_s, oka_agg, okv_v, nat4_okk, nat8_okk, arr_okk, iarr_okk]) (by simp only [List.length_cons, List.length_nil, List.map_cons, List.map_nil, List.nodup_cons, List.nodup_nil, List.mem_cons, Nat.reduceAdd, Nat.reduceEqDiff, or_false, not_false_eq_true, forall_eq_or_imp, forall_eq, or_self, Nat.reduceLT, Nat.reduceLeDiff, and_self, List.forall_mem_cons, List.not_mem_nil, false_implies, implies_true, and_true, true_and, okv_p, okv_sl, oks_s, oks_agg, oks_tup, oka_s, oka_agg, okv_v, nat4_okk, nat8_okk, arr_okk, iarr_okk]) fun w => ?_
  simp only [List.length_cons, List.length_nil, Tryz.ntmps108, Nat.reduceAdd, Nat.reduceSub, List.replicate_succ, List.replicate_zero, List.cons_append, List.nil_append]
  by_cases h : i < 0
  · (repeat (refine X_of _ ?_; simp -implicitDefEqProofs (maxSteps := 1000000) (disch := first | exact dzSKL | fail) only [vcR, vcT, simprocAttr, Ab.part, implies_true, forall_const, Tryz.f108, List.toList_toArray]))
    try simp [h]
  by_cases h1 : 4 ≤ i
  · (repeat (refine X_of _ ?_; simp -implicitDefEqProofs (maxSteps := 1000000) (disch := first | exact dzSKL | fail) only [vcR, vcT, simprocAttr, Ab.part, implies_true, forall_const, Tryz.f108, List.toList_toArray]))
    try simp [h1]
  obtain ⟨i, rfl⟩ := Int.eq_ofNat_of_zero_le (a := i) (by omega)
  (repeat (refine X_of _ ?_; simp -implicitDefEqProofs (maxSteps := 1000000) (disch := first | exact dzSKL | fail) only [vcR, vcT, simprocAttr, Ab.part, implies_true, forall_const, Tryz.f108, List.toList_toArray, nat4, arr_get]))
end Go.Proofs.YtdmcknmjdlghgaaGreatDoor
namespace Go.Proofs.YtdmcknmjdlghgaaGreatDoor
open Go Go.Ab
set_option linter.unusedSimpArgs false
set_option linter.unusedVariables false
set_option maxHeartbeats 20000000
theorem len_c (a : Nat) (ha : a < 2 ^ 256) : PureC Tryz.prog 69 [.agg (nat4 a)] (.s (.v (.int .i64 (blen a : Int)))) := by
  refine pureC_of Tryz.func69 rfl (by simp only [List.length_cons, List.length_nil, List.map_cons, List.map_nil, List.nodup_cons, List.nodup_nil, List.mem_cons, Nat.reduceAdd, Nat.reduceEqDiff, or_false, not_false_eq_true, forall_eq_or_imp, forall_eq, or_self, Nat.reduceLT, Nat.reduceLeDiff, and_self, List.forall_mem_cons, List.not_mem_nil, false_implies, implies_true, and_true, true_and, okv_p, okv_sl, oks_s, oks_agg, oks_tup, oka_s, oka_agg, okv_v, nat4_okk, nat8_okk, arr_okk, iarr_okk]) (by simp only [List.length_cons, List.length_nil, List.map_cons, List.map_nil, List.nodup_cons, List.nodup_nil, List.mem_cons, Nat.reduceAdd, Nat.reduceEqDiff, or_false, not_false_eq_true, forall_eq_or_imp, forall_eq, or_self, Nat.reduceLT, Nat.reduceLeDiff, and_self, List.forall_mem_cons, List.not_mem_nil, false_implies, implies_true, and_true, true_and, okv_p, okv_sl, oks_s, oks_agg, oks_tup, oka_s, oka_agg, okv_v, nat4_okk, nat8_okk, arr_okk, iarr_okk]) fun w => ?_
  simp only [List.length_cons, List.length_nil, Tryz.ntmps69, Nat.reduceAdd, Nat.reduceSub, List.replicate_succ, List.replicate_zero, List.cons_append, List.nil_append]
  (repeat (refine X_of _ ?_; simp -implicitDefEqProofs (maxSteps := 1000000) (disch := first | exact dzSKL | fail) only [vcR, vcT, simprocAttr, Ab.part, implies_true, forall_const, Tryz.f69, List.toList_toArray, nat4]))
  refine X_loop (ι := Nat) (fun k => k ≤ 4 ∧ a < 2 ^ (64 * k)) (fun k => k) [3, 4, 5, 6, 7, 8, 9, 10, 11, 12, 13, 14, 15, 16, 17, 18]
    (fun k => [(3, .s (.v (.int .i64 ((k : Int) - 1))))])
    (fun k => []) 4 (shape_of fun i => ?_) (by decide) ?_ ?_
  · simp only [List.length_cons, List.length_nil, List.map_cons, List.map_nil, List.nodup_cons, List.nodup_nil, List.mem_cons, Nat.reduceAdd, Nat.reduceEqDiff, or_false, not_false_eq_true, forall_eq_or_imp, forall_eq, or_self, Nat.reduceLT, Nat.reduceLeDiff, and_self, List.forall_mem_cons, List.not_mem_nil, false_implies, implies_true, and_true, true_and, okv_p, okv_sl, oks_s, oks_agg, oks_tup, oka_s, oka_agg, okv_v, nat4_okk, nat8_okk, arr_okk, iarr_okk]
  · simp -implicitDefEqProofs (maxSteps := 1000000) (disch := first | exact dzSKL | fail) only [vcR, vcT, simprocAttr, Ab.part, implies_true, forall_const, Tryz.f69, List.toList_toArray, again_eq]
    simp
  · rintro (_ | j) us ⟨hk, he⟩
    · (repeat (refine X_of _ ?_; simp -implicitDefEqProofs (maxSteps := 1000000) (disch := first | exact dzSKL | fail) only [vcR, vcT, simprocAttr, Ab.part, implies_true, forall_const, Tryz.f69, List.toList_toArray]))
      have : a = 0 := by simpa using he
      subst this
      rfl
    · have hw := wd_lt a j
      (repeat (refine X_of _ ?_; simp -implicitDefEqProofs (maxSteps := 1000000) (disch := first | exact dzSKL | fail) only [vcR, vcT, simprocAttr, Ab.part, implies_true, forall_const, Tryz.f69, List.toList_toArray, subL, Nat.add_one_sub_one, arr_get]))
      refine ⟨fun h => ?_, fun h => ?_⟩
      · (repeat (refine X_of _ ?_; simp -implicitDefEqProofs (maxSteps := 1000000) (disch := first | exact dzSKL | fail) only [vcR, vcT, simprocAttr, Ab.part, implies_true, forall_const, Tryz.f69, List.toList_toArray, arr_get]))
        (apply xcall_pure; kernel_rfl; exact PureC.cal (len64_p (wd a j) (wd_lt a j)); try simp -implicitDefEqProofs (maxSteps := 1000000) (disch := first | exact dzSKL | fail) only [vcR, vcT, simprocAttr, Ab.part, implies_true, forall_const, Tryz.f69, List.toList_toArray])
        have h64 := Lib.bitLen_le (wd a j) 64 (by decide) hw
        (repeat (refine X_of _ ?_; simp -implicitDefEqProofs (maxSteps := 1000000) (disch := first | exact dzSKL | fail) only [vcR, vcT, simprocAttr, Ab.part, implies_true, forall_const, Tryz.f69, List.toList_toArray]))
        rw [blen_word a j he (by simpa using h)]
      · (repeat (refine X_of _ ?_; simp -implicitDefEqProofs (maxSteps := 1000000) (disch := first | exact dzSKL | fail) only [vcR, vcT, simprocAttr, Ab.part, implies_true, forall_const, Tryz.f69, List.toList_toArray]))
        refine ⟨j, by omega, ?_⟩
        simp -implicitDefEqProofs (maxSteps := 1000000) (disch := first | exact dzSKL | fail) only [vcR, vcT, simprocAttr, Ab.part, implies_true, forall_const, Tryz.f69, List.toList_toArray, again_eq]
        exact ⟨lt_word a j he (by simpa using h), _, rfl⟩
theorem word_w (a : Nat) (i : Int) : PureC Tryz.prog 108 [.agg (nat4 a), .s (.v (.int .i64 i))] (.s (.v (.int .u64 (wat a i : Int)))) := word_c a i
theorem shift_c (a : Nat) (n : Int) (ha : a < 2 ^ 256) : PureC Tryz.prog 103 [.agg (nat4 a), .s (.v (.int .i64 n))] (.agg (nat4 (shf a n))) := by
  refine pureC_of Tryz.func103 rfl (by simp only [List.length_cons, List.length_nil, List.map_cons, List.map_nil, List.nodup_cons, List.nodup_nil, List.mem_cons, Nat.reduceAdd, Nat.reduceEqDiff, or_false, not_false_eq_true, forall_eq_or_imp, forall_eq, or_self, Nat.reduceLT, Nat.reduceLeDiff, and_self, List.forall_mem_cons, List.not_mem_nil, false_implies, implies_true, and_true, true_and, okv_p, okv_sl, oks_s, oks_agg, oks_tup, oka_s, oka_agg, okv_v, nat4_okk, nat8_okk, arr_okk, iarr_okk]) (by simp only [List.length_cons, List.length_nil, List.map_cons, List.map_nil, List.nodup_cons, List.nodup_nil, List.mem_cons, Nat.reduceAdd, Nat.reduceEqDiff, or_false, not_false_eq_true, forall_eq_or_imp, forall_eq, or_self, Nat.reduceLT, Nat.reduceLeDiff, and_self, List.forall_mem_cons, List.not_mem_nil, false_implies, implies_true, and_true, true_and, okv_p, okv_sl, oks_s, oks_agg, oks_tup, oka_s, oka_agg, okv_v, nat4_okk, nat8_okk, arr_okk, iarr_okk]) fun w => ?_
  simp only [List.length_cons, List.length_nil, Tryz.ntmps103, Nat.reduceAdd, Nat.reduceSub, List.replicate_succ, List.replicate_zero, List.cons_append, List.nil_append]
  by_cases h : n ≤ -256
  · (repeat (refine X_of _ ?_; simp -implicitDefEqProofs (maxSteps := 1000000) (disch := first | exact dzSKL | fail) only [vcR, vcT, simprocAttr, Ab.part, implies_true, forall_const, Tryz.f103, List.toList_toArray]))
    simp only [shf, h, true_or, if_true]
    exact arr_congr fun i _ => (wd_zero i).symm
  by_cases h1 : 256 ≤ n
  · (repeat (refine X_of _ ?_; simp -implicitDefEqProofs (maxSteps := 1000000) (disch := first | exact dzSKL | fail) only [vcR, vcT, simprocAttr, Ab.part, implies_true, forall_const, Tryz.f103, List.toList_toArray]))
    simp only [shf, h1, or_true, if_true]
    exact arr_congr fun i _ => (wd_zero i).symm
  obtain ⟨ws, p, hp, hn⟩ : ∃ (ws : Int) (p : Nat), p < 64 ∧ n = 64 * ws + p := ⟨n / 64, (n % 64).toNat, by omega, by omega⟩
  have e1 : n / 64 = ws := by omega
  have e2 : n % 64 = p := by omega
  have e0 : n.fdiv 64 = ws := by rw [Int.fdiv_eq_ediv_of_nonneg _ (by decide)]; exact e1
  (repeat (refine X_of _ ?_; simp -implicitDefEqProofs (maxSteps := 1000000) (disch := first | exact dzSKL | fail) only [vcR, vcT, simprocAttr, Ab.part, implies_true, forall_const, Tryz.f103, List.toList_toArray, and63, e0, e2]))
  refine X_loop (ι := Nat) (fun k => k ≤ 4) (fun k => 4 - k) [8, 20, 21, 22, 23, 24, 25, 26, 27, 28, 29, 30, 31, 32, 33, 34, 35, 36, 37, 38, 39, 40, 41, 42, 43]
    (fun k => [(20, .s (.v (.int .i64 (k : Nat))))])
    (fun k => [(2, arr 4 fun i => if i < k then wd (shf a n) i else 0)]) 0 (shape_of fun i => ?_) (by decide) ?_ ?_
  · simp only [List.length_cons, List.length_nil, List.map_cons, List.map_nil, List.nodup_cons, List.nodup_nil, List.mem_cons, Nat.reduceAdd, Nat.reduceEqDiff, or_false, not_false_eq_true, forall_eq_or_imp, forall_eq, or_self, Nat.reduceLT, Nat.reduceLeDiff, and_self, List.forall_mem_cons, List.not_mem_nil, false_implies, implies_true, and_true, true_and, okv_p, okv_sl, oks_s, oks_agg, oks_tup, oka_s, oka_agg, okv_v, nat4_okk, nat8_okk, arr_okk, iarr_okk]
  · simp -implicitDefEqProofs (maxSteps := 1000000) (disch := first | exact dzSKL | fail) only [vcR, vcT, simprocAttr, Ab.part, implies_true, forall_const, Tryz.f103, List.toList_toArray, again_eq]
    simp
  · intro k us hk
    (repeat (refine X_of _ ?_; simp -implicitDefEqProofs (maxSteps := 1000000) (disch := first | exact dzSKL | fail) only [vcR, vcT, simprocAttr, Ab.part, implies_true, forall_const, Tryz.f103, List.toList_toArray]))
    refine ⟨fun h => ?_, fun h => ?_⟩
    · (repeat (refine X_of _ ?_; simp -implicitDefEqProofs (maxSteps := 1000000) (disch := first | exact dzSKL | fail) only [vcR, vcT, simprocAttr, Ab.part, implies_true, forall_const, Tryz.f103, List.toList_toArray]))
      (refine X_draw 19 (by kernel_rfl) (by kernel_rfl) ?_; simp only [List.take_succ_cons, List.take_zero, List.drop_succ_cons, List.drop_zero]; simp -implicitDefEqProofs (maxSteps := 1000000) (disch := first | exact dzSKL | fail) only [vcR, vcT, simprocAttr, Ab.part, implies_true, forall_const, Tryz.f103, List.toList_toArray])
      (apply xcallV_pure; kernel_rfl; exact PureC.cal (word_w a (k - ws)); try simp -implicitDefEqProofs (maxSteps := 1000000) (disch := first | exact dzSKL | fail) only [vcR, vcT, simprocAttr, Ab.part, implies_true, forall_const, Tryz.f103, List.toList_toArray])
      have hw1 := wat_lt a (k - ws - 1)
      have hw2 : wat a (k - ws - 1) / 2 / 2 ^ (63 - p) < 18446744073709551616 := Nat.lt_of_le_of_lt (Nat.div_le_self _ _) (by omega)
      (apply xcallV_pure; kernel_rfl; exact PureC.cal (word_w a (k - ws - 1)); try simp -implicitDefEqProofs (maxSteps := 1000000) (disch := first | exact dzSKL | fail) only [vcR, vcT, simprocAttr, Ab.part, implies_true, forall_const, Tryz.f103, List.toList_toArray, w64m, orN])
      (repeat (refine X_of _ ?_; simp -implicitDefEqProofs (maxSteps := 1000000) (disch := first | exact dzSKL | fail) only [vcR, vcT, simprocAttr, Ab.part, implies_true, forall_const, Tryz.f103, List.toList_toArray]))
      refine ⟨k + 1, by omega, ?_⟩
      simp -implicitDefEqProofs (maxSteps := 1000000) (disch := first | exact dzSKL | fail) only [vcR, vcT, simprocAttr, Ab.part, implies_true, forall_const, Tryz.f103, List.toList_toArray, again_eq]
      exact ⟨_, arr_congr fun i hi => upd_word (shift_word a ws p k n ha hn hp (by omega) (by omega) (by omega)), rfl⟩
    · (repeat (refine X_of _ ?_; simp -implicitDefEqProofs (maxSteps := 1000000) (disch := first | exact dzSKL | fail) only [vcR, vcT, simprocAttr, Ab.part, implies_true, forall_const, Tryz.f103, List.toList_toArray]))
      have : k = 4 := by omega
      subst this
      exact arr_congr fun i hi => if_pos hi
end Go.Proofs.YtdmcknmjdlghgaaGreatDoor
namespace Go.Proofs.YtdmcknmjdlghgaaGreatDoor
open Go Go.Ab
set_option linter.unusedSimpArgs false
set_option linter.unusedVariables false
set_option maxHeartbeats 20000000
theorem bit_n (a i : Nat) (hi : i < 256) : PureC Tryz.prog 70 [.agg (nat4 a), .s (.v (.int .i64 (i : Int)))] (.s (.v (.int .u64 ((a / 2 ^ i % 2 : Nat) : Int)))) := by
  have := bit_c a i
  rw [if_neg (by omega)] at this
  exact this
theorem bring_c (rest m bit v : Nat) (hm : m < 2 ^ 256) (hr : rest < m) (hb : bit ≤ 1) (hv : v = 2 * rest + bit) : PureC Tryz.prog 100 [.agg (nat4 rest), .agg (nat4 m), .s (.v (.int .u64 (bit : Int)))]
    (.tup [.agg (nat4 (if m ≤ v then v - m else v)), .s (.v (.int .u64 ((if m ≤ v then 1 else 0 : Nat) : Int)))]) := by
  refine pureC_of Tryz.func100 rfl (by simp only [List.length_cons, List.length_nil, List.map_cons, List.map_nil, List.nodup_cons, List.nodup_nil, List.mem_cons, Nat.reduceAdd, Nat.reduceEqDiff, or_false, not_false_eq_true, forall_eq_or_imp, forall_eq, or_self, Nat.reduceLT, Nat.reduceLeDiff, and_self, List.forall_mem_cons, List.not_mem_nil, false_implies, implies_true, and_true, true_and, okv_p, okv_sl, oks_s, oks_agg, oks_tup, oka_s, oka_agg, okv_v, nat4_okk, nat8_okk, arr_okk, iarr_okk]) (by simp only [List.length_cons, List.length_nil, List.map_cons, List.map_nil, List.nodup_cons, List.nodup_nil, List.mem_cons, Nat.reduceAdd, Nat.reduceEqDiff, or_false, not_false_eq_true, forall_eq_or_imp, forall_eq, or_self, Nat.reduceLT, Nat.reduceLeDiff, and_self, List.forall_mem_cons, List.not_mem_nil, false_implies, implies_true, and_true, true_and, okv_p, okv_sl, oks_s, oks_agg, oks_tup, oka_s, oka_agg, okv_v, nat4_okk, nat8_okk, arr_okk, iarr_okk]) fun w => ?_
  simp only [List.length_cons, List.length_nil, Tryz.ntmps100, Nat.reduceAdd, Nat.reduceSub, List.replicate_succ, List.replicate_zero, List.cons_append, List.nil_append]
  have hb1 := bit_n rest 255 (by decide)
  obtain ⟨o, ho⟩ : ∃ o, rest / 2 ^ 255 % 2 = o := ⟨_, rfl⟩
  rw [ho] at hb1
  have hs := shift_c rest 1 (by omega)
  obtain ⟨q, hq⟩ : ∃ q, shf rest 1 = q := ⟨_, rfl⟩
  have hq2 : q = rest * 2 % 2 ^ 256 := by rw [← hq]; rfl
  rw [hq] at hs
  have hw := wd_lt q 0
  have e : (arr 4 fun j => if j = 0 then wd q 0 ||| bit else wd q j) = nat4 (v % 2 ^ 256) := by
    have hV : v % 2 ^ 256 = q + bit * 2 ^ 0 := by omega
    rw [hV]
    refine arr_congr fun j hj => ?_
    by_cases h : j = 0
    · subst h
      rw [if_pos rfl, ← or_bit q bit 0 0 (by omega) hb rfl]
      rw [show 0 % 64 = 0 from rfl, Nat.pow_zero, Nat.mul_one, Nat.mod_eq_of_lt (by omega)]
    · rw [if_neg h, wd_above q bit 0 j (by omega) hb (by omega)]
  obtain ⟨V, hV⟩ : ∃ V, v % 2 ^ 256 = V := ⟨_, rfl⟩
  rw [hV] at e
  (repeat (refine X_of _ ?_; simp -implicitDefEqProofs (maxSteps := 1000000) (disch := first | exact dzSKL | fail) only [vcR, vcT, simprocAttr, Ab.part, implies_true, forall_const, Tryz.f100, List.toList_toArray]))
  (apply xcall_pure; kernel_rfl; exact PureC.cal (hb1); try simp -implicitDefEqProofs (maxSteps := 1000000) (disch := first | exact dzSKL | fail) only [vcR, vcT, simprocAttr, Ab.part, implies_true, forall_const, Tryz.f100, List.toList_toArray])
  (repeat (refine X_of _ ?_; simp -implicitDefEqProofs (maxSteps := 1000000) (disch := first | exact dzSKL | fail) only [vcR, vcT, simprocAttr, Ab.part, implies_true, forall_const, Tryz.f100, List.toList_toArray]))
  (apply xcall_pure; kernel_rfl; exact PureC.cal (hs); try simp -implicitDefEqProofs (maxSteps := 1000000) (disch := first | exact dzSKL | fail) only [vcR, vcT, simprocAttr, Ab.part, implies_true, forall_const, Tryz.f100, List.toList_toArray])
  have hc := cmp_c V m (by omega) hm
  have hcase : (o = 0 ∧ V = v ∧ V < 2 ^ 256) ∨ (o = 1 ∧ V < 2 ^ 256 ∧ m ≤ v ∧ v - m < 2 ^ 256 ∧ v - m + m = V + 2 ^ 256 * 1) := by omega
  clear hq2 hq hs hb1 ho hV hv hr
  rcases hcase with ⟨ho2, hVv, hV2⟩ | ⟨ho2, hV2, h, h3, h4⟩
  · subst ho2
    subst hVv
    by_cases h : m ≤ V
    · have hs := sg_nonneg h
      (repeat (refine X_of _ ?_; simp -implicitDefEqProofs (maxSteps := 1000000) (disch := first | exact dzSKL | fail) only [vcR, vcT, simprocAttr, Ab.part, implies_true, forall_const, Tryz.f100, List.toList_toArray, orN, e]))
      (apply xcall_pure; kernel_rfl; exact PureC.cal (hc); try simp -implicitDefEqProofs (maxSteps := 1000000) (disch := first | exact dzSKL | fail) only [vcR, vcT, simprocAttr, Ab.part, implies_true, forall_const, Tryz.f100, List.toList_toArray])
      (repeat (refine X_of _ ?_; simp -implicitDefEqProofs (maxSteps := 1000000) (disch := first | exact dzSKL | fail) only [vcR, vcT, simprocAttr, Ab.part, implies_true, forall_const, Tryz.f100, List.toList_toArray]))
      (apply xcall_pure; kernel_rfl; exact PureC.cal (sub_c V m (V - m) 0 hV2 hm (by omega) (by omega)); try simp -implicitDefEqProofs (maxSteps := 1000000) (disch := first | exact dzSKL | fail) only [vcR, vcT, simprocAttr, Ab.part, implies_true, forall_const, Tryz.f100, List.toList_toArray])
      (repeat (refine X_of _ ?_; simp -implicitDefEqProofs (maxSteps := 1000000) (disch := first | exact dzSKL | fail) only [vcR, vcT, simprocAttr, Ab.part, implies_true, forall_const, Tryz.f100, List.toList_toArray]))
    · have hs := sg_lt0 (Nat.lt_of_not_le h)
      (repeat (refine X_of _ ?_; simp -implicitDefEqProofs (maxSteps := 1000000) (disch := first | exact dzSKL | fail) only [vcR, vcT, simprocAttr, Ab.part, implies_true, forall_const, Tryz.f100, List.toList_toArray, orN, e]))
      (apply xcall_pure; kernel_rfl; exact PureC.cal (hc); try simp -implicitDefEqProofs (maxSteps := 1000000) (disch := first | exact dzSKL | fail) only [vcR, vcT, simprocAttr, Ab.part, implies_true, forall_const, Tryz.f100, List.toList_toArray])
      (repeat (refine X_of _ ?_; simp -implicitDefEqProofs (maxSteps := 1000000) (disch := first | exact dzSKL | fail) only [vcR, vcT, simprocAttr, Ab.part, implies_true, forall_const, Tryz.f100, List.toList_toArray]))
  · subst ho2
    (repeat (refine X_of _ ?_; simp -implicitDefEqProofs (maxSteps := 1000000) (disch := first | exact dzSKL | fail) only [vcR, vcT, simprocAttr, Ab.part, implies_true, forall_const, Tryz.f100, List.toList_toArray, orN, e]))
    (apply xcall_pure; kernel_rfl; exact PureC.cal (sub_c V m (v - m) 1 hV2 hm h3 h4); try simp -implicitDefEqProofs (maxSteps := 1000000) (disch := first | exact dzSKL | fail) only [vcR, vcT, simprocAttr, Ab.part, implies_true, forall_const, Tryz.f100, List.toList_toArray])
    (repeat (refine X_of _ ?_; simp -implicitDefEqProofs (maxSteps := 1000000) (disch := first | exact dzSKL | fail) only [vcR, vcT, simprocAttr, Ab.part, implies_true, forall_const, Tryz.f100, List.toList_toArray]))
end Go.Proofs.YtdmcknmjdlghgaaGreatDoor
namespace Go.Proofs.YtdmcknmjdlghgaaGreatDoor
open Go Go.Ab
set_option linter.unusedSimpArgs false
set_option linter.unusedVariables false
set_option maxHeartbeats 20000000
theorem rem_c (wv m : Nat) (hw : wv < 2 ^ 512) (hm : m < 2 ^ 256) (h0 : 0 < m) : PureC Tryz.prog 95 [.agg (nat8 wv), .agg (nat4 m)] (.tup [.agg (nat4 (wv % m)), .s (.v (.int .i64 0))]) := by
  refine pureC_of Tryz.func95 rfl (by simp only [List.length_cons, List.length_nil, List.map_cons, List.map_nil, List.nodup_cons, List.nodup_nil, List.mem_cons, Nat.reduceAdd, Nat.reduceEqDiff, or_false, not_false_eq_true, forall_eq_or_imp, forall_eq, or_self, Nat.reduceLT, Nat.reduceLeDiff, and_self, List.forall_mem_cons, List.not_mem_nil, false_implies, implies_true, and_true, true_and, okv_p, okv_sl, oks_s, oks_agg, oks_tup, oka_s, oka_agg, okv_v, nat4_okk, nat8_okk, arr_okk, iarr_okk]) (by simp only [List.length_cons, List.length_nil, List.map_cons, List.map_nil, List.nodup_cons, List.nodup_nil, List.mem_cons, Nat.reduceAdd, Nat.reduceEqDiff, or_false, not_false_eq_true, forall_eq_or_imp, forall_eq, or_self, Nat.reduceLT, Nat.reduceLeDiff, and_self, List.forall_mem_cons, List.not_mem_nil, false_implies, implies_true, and_true, true_and, okv_p, okv_sl, oks_s, oks_agg, oks_tup, oka_s, oka_agg, okv_v, nat4_okk, nat8_okk, arr_okk, iarr_okk]) fun w => ?_
  simp only [List.length_cons, List.length_nil, Tryz.ntmps95, Nat.reduceAdd, Nat.reduceSub, List.replicate_succ, List.replicate_zero, List.cons_append, List.nil_append]
  have hne : decide (m = 0) = false := by simp; omega
  (repeat (refine X_of _ ?_; simp -implicitDefEqProofs (maxSteps := 1000000) (disch := first | (simp only [nat4_length, nat8_length, arr_length, iarr_length, List.length_cons, List.length_nil, Nat.reduceAdd]; done) | omega) only [vcR, vcT, Int.reduceBEq, Int.reduceBNe, Int.reduceEq, Int.reduceNe, Ab.part, Nat.reduceAdd, Nat.reduceMul, Nat.reduceLeDiff, Nat.reduceEqDiff, Nat.reduceBEq, Nat.reduceBNe, reduceCtorEq, ↓reduceIte, implies_true, forall_const, Int.reduceNeg, Int.reduceToNat, Int.reduceLT, Int.reduceLE, Int.reduceAdd, Int.reduceSub, Int.reduceMul, Int.reducePow, Nat.reducePow, Tryz.f95, List.toList_toArray, arr4_zero,hne]))
  refine X_loop (ι := Nat) (fun k => k ≤ 512) (fun k => 512 - k) [7, 8, 13, 14, 15, 16, 17, 18, 19, 20, 21, 22, 23, 24, 25, 26, 27, 28, 29, 30, 31, 32, 33]
    (fun k => [(13, .s (.v (.int .i64 (k : Nat))))])
    (fun k => [(3, nat4 (wv / 2 ^ (512 - k) % m))]) 0 (shape_of fun i => ?_) (by decide) ?_ ?_
  · simp only [List.length_cons, List.length_nil, List.map_cons, List.map_nil, List.nodup_cons, List.nodup_nil, List.mem_cons, Nat.reduceAdd, Nat.reduceEqDiff, or_false, not_false_eq_true, forall_eq_or_imp, forall_eq, or_self, Nat.reduceLT, Nat.reduceLeDiff, and_self, List.forall_mem_cons, List.not_mem_nil, false_implies, implies_true, and_true, true_and, okv_p, okv_sl, oks_s, oks_agg, oks_tup, oka_s, oka_agg, okv_v, nat4_okk, nat8_okk, arr_okk, iarr_okk]
  · simp -implicitDefEqProofs (maxSteps := 1000000) (disch := first | (simp only [nat4_length, nat8_length, arr_length, iarr_length, List.length_cons, List.length_nil, Nat.reduceAdd]; done) | omega) only [vcR, vcT, Int.reduceBEq, Int.reduceBNe, Int.reduceEq, Int.reduceNe, Ab.part, Nat.reduceAdd, Nat.reduceMul, Nat.reduceLeDiff, Nat.reduceEqDiff, Nat.reduceBEq, Nat.reduceBNe, reduceCtorEq, ↓reduceIte, implies_true, forall_const, Int.reduceNeg, Int.reduceToNat, Int.reduceLT, Int.reduceLE, Int.reduceAdd, Int.reduceSub, Int.reduceMul, Int.reducePow, Nat.reducePow, Tryz.f95, List.toList_toArray, again_eq]
    rw [show 512 - 0 = 512 from rfl, Nat.div_eq_of_lt hw, Nat.zero_mod]
    simp
  · intro k us hk
    (repeat (refine X_of _ ?_; simp -implicitDefEqProofs (maxSteps := 1000000) (disch := first | (simp only [nat4_length, nat8_length, arr_length, iarr_length, List.length_cons, List.length_nil, Nat.reduceAdd]; done) | omega) only [vcR, vcT, Int.reduceBEq, Int.reduceBNe, Int.reduceEq, Int.reduceNe, Ab.part, Nat.reduceAdd, Nat.reduceMul, Nat.reduceLeDiff, Nat.reduceEqDiff, Nat.reduceBEq, Nat.reduceBNe, reduceCtorEq, ↓reduceIte, implies_true, forall_const, Int.reduceNeg, Int.reduceToNat, Int.reduceLT, Int.reduceLE, Int.reduceAdd, Int.reduceSub, Int.reduceMul, Int.reducePow, Nat.reducePow, Tryz.f95, List.toList_toArray]))
    refine ⟨fun h => ?_, fun h => ?_⟩
    · obtain ⟨i, hi⟩ : ∃ i, 511 - k = i := ⟨_, rfl⟩
      have hi2 : 512 - k = i + 1 := by omega
      rw [hi2]
      have hwd := wd_lt wv (i / 64)
      have hs : wd wv (i / 64) / 2 ^ (i % 64) < 18446744073709551616 := Nat.lt_of_le_of_lt (Nat.div_le_self _ _) hwd
      (repeat (refine X_of _ ?_; simp -implicitDefEqProofs (maxSteps := 1000000) (disch := first | (simp only [nat4_length, nat8_length, arr_length, iarr_length, List.length_cons, List.length_nil, Nat.reduceAdd]; done) | omega) only [vcR, vcT, Int.reduceBEq, Int.reduceBNe, Int.reduceEq, Int.reduceNe, Ab.part, Nat.reduceAdd, Nat.reduceMul, Nat.reduceLeDiff, Nat.reduceEqDiff, Nat.reduceBEq, Nat.reduceBNe, reduceCtorEq, ↓reduceIte, implies_true, forall_const, Int.reduceNeg, Int.reduceToNat, Int.reduceLT, Int.reduceLE, Int.reduceAdd, Int.reduceSub, Int.reduceMul, Int.reducePow, Nat.reducePow, Tryz.f95, List.toList_toArray, hi]))
      (refine X_draw 14 (by kernel_rfl) (by kernel_rfl) ?_; simp only [List.take_succ_cons, List.take_zero, List.drop_succ_cons, List.drop_zero]; simp -implicitDefEqProofs (maxSteps := 1000000) (disch := first | (simp only [nat4_length, nat8_length, arr_length, iarr_length, List.length_cons, List.length_nil, Nat.reduceAdd]; done) | omega) only [vcR, vcT, Int.reduceBEq, Int.reduceBNe, Int.reduceEq, Int.reduceNe, Ab.part, Nat.reduceAdd, Nat.reduceMul, Nat.reduceLeDiff, Nat.reduceEqDiff, Nat.reduceBEq, Nat.reduceBNe, reduceCtorEq, ↓reduceIte, implies_true, forall_const, Int.reduceNeg, Int.reduceToNat, Int.reduceLT, Int.reduceLE, Int.reduceAdd, Int.reduceSub, Int.reduceMul, Int.reducePow, Nat.reducePow, Tryz.f95, List.toList_toArray])
      clear hwd hs
      (apply xcallV_pure; kernel_rfl; exact PureC.cal (bring_c (wv / 2 ^ (i + 1) % m) m (wd wv (i / 64) / 2 ^ (i % 64) % 2) _ hm (Nat.mod_lt _ h0) (by omega) rfl); try simp -implicitDefEqProofs (maxSteps := 1000000) (disch := first | (simp only [nat4_length, nat8_length, arr_length, iarr_length, List.length_cons, List.length_nil, Nat.reduceAdd]; done) | omega) only [vcR, vcT, Int.reduceBEq, Int.reduceBNe, Int.reduceEq, Int.reduceNe, Ab.part, Nat.reduceAdd, Nat.reduceMul, Nat.reduceLeDiff, Nat.reduceEqDiff, Nat.reduceBEq, Nat.reduceBNe, reduceCtorEq, ↓reduceIte, implies_true, forall_const, Int.reduceNeg, Int.reduceToNat, Int.reduceLT, Int.reduceLE, Int.reduceAdd, Int.reduceSub, Int.reduceMul, Int.reducePow, Nat.reducePow, Tryz.f95, List.toList_toArray])
      (repeat (refine X_of _ ?_; simp -implicitDefEqProofs (maxSteps := 1000000) (disch := first | (simp only [nat4_length, nat8_length, arr_length, iarr_length, List.length_cons, List.length_nil, Nat.reduceAdd]; done) | omega) only [vcR, vcT, Int.reduceBEq, Int.reduceBNe, Int.reduceEq, Int.reduceNe, Ab.part, Nat.reduceAdd, Nat.reduceMul, Nat.reduceLeDiff, Nat.reduceEqDiff, Nat.reduceBEq, Nat.reduceBNe, reduceCtorEq, ↓reduceIte, implies_true, forall_const, Int.reduceNeg, Int.reduceToNat, Int.reduceLT, Int.reduceLE, Int.reduceAdd, Int.reduceSub, Int.reduceMul, Int.reducePow, Nat.reducePow, Tryz.f95, List.toList_toArray]))
      refine ⟨k + 1, by omega, ?_⟩
      simp -implicitDefEqProofs (maxSteps := 1000000) (disch := first | (simp only [nat4_length, nat8_length, arr_length, iarr_length, List.length_cons, List.length_nil, Nat.reduceAdd]; done) | omega) only [vcR, vcT, Int.reduceBEq, Int.reduceBNe, Int.reduceEq, Int.reduceNe, Ab.part, Nat.reduceAdd, Nat.reduceMul, Nat.reduceLeDiff, Nat.reduceEqDiff, Nat.reduceBEq, Nat.reduceBNe, reduceCtorEq, ↓reduceIte, implies_true, forall_const, Int.reduceNeg, Int.reduceToNat, Int.reduceLT, Int.reduceLE, Int.reduceAdd, Int.reduceSub, Int.reduceMul, Int.reducePow, Nat.reducePow, Tryz.f95, List.toList_toArray, again_eq]
      rw [wd_bit, show 512 - (k + 1) = i by omega, (div_bit wv m i _ h0 rfl).1]
      simp
    · (repeat (refine X_of _ ?_; simp -implicitDefEqProofs (maxSteps := 1000000) (disch := first | (simp only [nat4_length, nat8_length, arr_length, iarr_length, List.length_cons, List.length_nil, Nat.reduceAdd]; done) | omega) only [vcR, vcT, Int.reduceBEq, Int.reduceBNe, Int.reduceEq, Int.reduceNe, Ab.part, Nat.reduceAdd, Nat.reduceMul, Nat.reduceLeDiff, Nat.reduceEqDiff, Nat.reduceBEq, Nat.reduceBNe, reduceCtorEq, ↓reduceIte, implies_true, forall_const, Int.reduceNeg, Int.reduceToNat, Int.reduceLT, Int.reduceLE, Int.reduceAdd, Int.reduceSub, Int.reduceMul, Int.reducePow, Nat.reducePow, Tryz.f95, List.toList_toArray]))
      have : k = 512 := by omega
      subst this
      simp
end Go.Proofs.YtdmcknmjdlghgaaGreatDoor
namespace Go.Proofs.YtdmcknmjdlghgaaGreatDoor
open Go Go.Ab
set_option linter.unusedSimpArgs false
set_option linter.unusedVariables false
set_option maxHeartbeats 20000000
theorem arr_bit (q w k : Nat) (hq : q % 2 ^ (k + 1) = 0) (hw : w ≤ 1) : (arr 4 fun j => if j = k / 64 then wd q (k / 64) ||| w * 2 ^ (k % 64) % 18446744073709551616 else wd q j) = nat4 (q + w * 2 ^ k) := by
  refine arr_congr fun j hj => ?_
  by_cases h : j = k / 64
  · rw [if_pos h, h, or_bit q w k _ hq hw rfl]
  · rw [if_neg h, wd_above q w k j hq hw (fun hh => h hh.symm)]
theorem div_c (a m : Nat) (ha : a < 2 ^ 256) (hm : m < 2 ^ 256) (h0 : 0 < m) : PureC Tryz.prog 92 [.agg (nat4 a), .agg (nat4 m)] (.tup [.agg (nat4 (a / m)), .agg (nat4 (a % m)), .s (.v (.int .i64 0))]) := by
  refine pureC_of Tryz.func92 rfl (by simp only [List.length_cons, List.length_nil, List.map_cons, List.map_nil, List.nodup_cons, List.nodup_nil, List.mem_cons, Nat.reduceAdd, Nat.reduceEqDiff, or_false, not_false_eq_true, forall_eq_or_imp, forall_eq, or_self, Nat.reduceLT, Nat.reduceLeDiff, and_self, List.forall_mem_cons, List.not_mem_nil, false_implies, implies_true, and_true, true_and, okv_p, okv_sl, oks_s, oks_agg, oks_tup, oka_s, oka_agg, okv_v, nat4_okk, nat8_okk, arr_okk, iarr_okk]) (by simp only [List.length_cons, List.length_nil, List.map_cons, List.map_nil, List.nodup_cons, List.nodup_nil, List.mem_cons, Nat.reduceAdd, Nat.reduceEqDiff, or_false, not_false_eq_true, forall_eq_or_imp, forall_eq, or_self, Nat.reduceLT, Nat.reduceLeDiff, and_self, List.forall_mem_cons, List.not_mem_nil, false_implies, implies_true, and_true, true_and, okv_p, okv_sl, oks_s, oks_agg, oks_tup, oka_s, oka_agg, okv_v, nat4_okk, nat8_okk, arr_okk, iarr_okk]) fun w => ?_
  simp only [List.length_cons, List.length_nil, Tryz.ntmps92, Nat.reduceAdd, Nat.reduceSub, List.replicate_succ, List.replicate_zero, List.cons_append, List.nil_append]
  have hne : decide (m = 0) = false := by simp; omega
  (repeat (refine X_of _ ?_; simp -implicitDefEqProofs (maxSteps := 1000000) (disch := first | exact dzSKL | fail) only [vcR, vcT, simprocAttr, Ab.part, implies_true, forall_const, Tryz.f92, List.toList_toArray, arr4_zero, hne]))
  refine X_loop (ι := Nat) (fun k => k ≤ 256) (fun k => k) [7, 8, 14, 15, 16, 17, 18, 19, 20, 21, 22, 23, 24, 25, 26, 27, 28, 29, 30, 31, 32, 33, 34, 35, 36]
    (fun k => [(7, .s (.v (.int .i64 ((k : Int) - 1))))])
    (fun k => [(2, nat4 (a / 2 ^ k / m * 2 ^ k)), (3, nat4 (a / 2 ^ k % m))]) 256 (shape_of fun i => ?_) (by decide) ?_ ?_
  · simp only [List.length_cons, List.length_nil, List.map_cons, List.map_nil, List.nodup_cons, List.nodup_nil, List.mem_cons, Nat.reduceAdd, Nat.reduceEqDiff, or_false, not_false_eq_true, forall_eq_or_imp, forall_eq, or_self, Nat.reduceLT, Nat.reduceLeDiff, and_self, List.forall_mem_cons, List.not_mem_nil, false_implies, implies_true, and_true, true_and, okv_p, okv_sl, oks_s, oks_agg, oks_tup, oka_s, oka_agg, okv_v, nat4_okk, nat8_okk, arr_okk, iarr_okk]
  · have e1 : a / 2 ^ 256 = 0 := Nat.div_eq_of_lt ha
    simp -implicitDefEqProofs (maxSteps := 1000000) (disch := first | exact dzSKL | fail) only [vcR, vcT, simprocAttr, Ab.part, implies_true, forall_const, Tryz.f92, List.toList_toArray, again_eq]
    simp only [Nat.reducePow] at e1
    rw [e1, Nat.zero_mod, Nat.zero_div, Nat.zero_mul]
    simp
  · rintro (_ | k) us hk
    · (repeat (refine X_of _ ?_; simp -implicitDefEqProofs (maxSteps := 1000000) (disch := first | exact dzSKL | fail) only [vcR, vcT, simprocAttr, Ab.part, implies_true, forall_const, Tryz.f92, List.toList_toArray]))
      (refine X_drawT 0 (.cons 0 (.cons 1 (.cons 2 (.cons 3 (.cons 4 .nil .nil) .nil) .nil) (.cons 2 (.cons 1 (.cons 3 (.cons 4 .nil .nil) .nil) .nil) .nil)) (.cons 1 (.cons 0 (.cons 2 (.cons 3 (.cons 4 .nil .nil) .nil) .nil) .nil) .nil)) (by kernel_rfl) (by kernel_rfl) ?_; simp only [List.take_succ_cons, List.take_zero]; simp -implicitDefEqProofs (maxSteps := 1000000) (disch := first | exact dzSKL | fail) only [vcR, vcT, simprocAttr, Ab.part, implies_true, forall_const, Tryz.f92, List.toList_toArray])
      (repeat (refine X_of _ ?_; simp -implicitDefEqProofs (maxSteps := 1000000) (disch := first | exact dzSKL | fail) only [vcR, vcT, simprocAttr, Ab.part, implies_true, forall_const, Tryz.f92, List.toList_toArray]))
      simp
    · clear hne
      obtain ⟨q, hq⟩ : ∃ q, a / 2 ^ (k + 1) / m * 2 ^ (k + 1) = q := ⟨_, rfl⟩
      rw [hq]
      have hwd := wd_lt q (k / 64)
      have hb := bit_n a k (by omega)
      obtain ⟨b, hbe⟩ : ∃ b, a / 2 ^ k % 2 = b := ⟨_, rfl⟩
      rw [hbe] at hb
      obtain ⟨v, hv⟩ : ∃ v, 2 * (a / 2 ^ (k + 1) % m) + b = v := ⟨_, rfl⟩
      have hbr := bring_c (a / 2 ^ (k + 1) % m) m b v hm (Nat.mod_lt _ h0) (by omega) hv.symm
      obtain ⟨t, ht⟩ : ∃ t, (if m ≤ v then 1 else 0) = t := ⟨_, rfl⟩
      rw [ht] at hbr
      obtain ⟨hd1, hd2⟩ := div_bit a m k v h0 (by omega)
      rw [← hd1] at hbr
      rw [ht] at hd2
      have ht1 : t ≤ 1 := by rw [← ht]; split <;> decide
      have hqn : q + t * 2 ^ k = a / 2 ^ k / m * 2 ^ k := by rw [hd2, ← hq, Nat.pow_succ, Nat.add_mul, Nat.mul_comm (2 ^ k) 2, ← Nat.mul_assoc, Nat.mul_comm 2 (a / _ / m)]
      have hab := arr_bit q t k (by rw [← hq, Nat.mul_mod_left]) ht1
      rw [hqn] at hab
      clear hd1 hd2 hv ht hbe hqn hq
      (repeat (refine X_of _ ?_; simp -implicitDefEqProofs (maxSteps := 1000000) (disch := first | exact dzSKL | fail) only [vcR, vcT, simprocAttr, Ab.part, implies_true, forall_const, Tryz.f92, List.toList_toArray]))
      (refine X_draw 9 (by kernel_rfl) (by kernel_rfl) ?_; simp only [List.take_succ_cons, List.take_zero, List.drop_succ_cons, List.drop_zero]; simp -implicitDefEqProofs (maxSteps := 1000000) (disch := first | exact dzSKL | fail) only [vcR, vcT, simprocAttr, Ab.part, implies_true, forall_const, Tryz.f92, List.toList_toArray])
      (apply xcallV_pure; kernel_rfl; exact PureC.cal (hb); try simp -implicitDefEqProofs (maxSteps := 1000000) (disch := first | exact dzSKL | fail) only [vcR, vcT, simprocAttr, Ab.part, implies_true, forall_const, Tryz.f92, List.toList_toArray])
      (apply xcallV_pure; kernel_rfl; exact PureC.cal (hbr); try simp -implicitDefEqProofs (maxSteps := 1000000) (disch := first | exact dzSKL | fail) only [vcR, vcT, simprocAttr, Ab.part, implies_true, forall_const, Tryz.f92, List.toList_toArray])
      (repeat (refine X_of _ ?_; simp -implicitDefEqProofs (maxSteps := 1000000) (disch := first | exact dzSKL | fail) only [vcR, vcT, simprocAttr, Ab.part, implies_true, forall_const, Tryz.f92, List.toList_toArray]))
      (refine X_draw 10 (by kernel_rfl) (by kernel_rfl) ?_; simp only [List.take_succ_cons, List.take_zero, List.drop_succ_cons, List.drop_zero]; simp -implicitDefEqProofs (maxSteps := 1000000) (disch := first | exact dzSKL | fail) only [vcR, vcT, simprocAttr, Ab.part, implies_true, forall_const, Tryz.f92, List.toList_toArray, w64m, orN, hab])
      (repeat (refine X_of _ ?_; simp -implicitDefEqProofs (maxSteps := 1000000) (disch := first | exact dzSKL | fail) only [vcR, vcT, simprocAttr, Ab.part, implies_true, forall_const, Tryz.f92, List.toList_toArray, w64m, orN, hab]))
      refine ⟨k, by omega, ?_⟩
      simp -implicitDefEqProofs (maxSteps := 1000000) (disch := first | exact dzSKL | fail) only [vcR, vcT, simprocAttr, Ab.part, implies_true, forall_const, Tryz.f92, List.toList_toArray, again_eq]
      simp
end Go.Proofs.YtdmcknmjdlghgaaGreatDoor
namespace Go.Proofs.YtdmcknmjdlghgaaGreatDoor
open Go Go.Ab
set_option linter.unusedSimpArgs false
set_option linter.unusedVariables false
set_option maxHeartbeats 20000000
theorem mul_c (a b : Nat) (ha : a < 2 ^ 256) (hb : b < 2 ^ 256) : PureC Tryz.prog 96 [.agg (nat4 a), .agg (nat4 b)] (.agg (nat8 (a * b))) := by
  refine pureC_of Tryz.func96 rfl (by simp only [List.length_cons, List.length_nil, List.map_cons, List.map_nil, List.nodup_cons, List.nodup_nil, List.mem_cons, Nat.reduceAdd, Nat.reduceEqDiff, or_false, not_false_eq_true, forall_eq_or_imp, forall_eq, or_self, Nat.reduceLT, Nat.reduceLeDiff, and_self, List.forall_mem_cons, List.not_mem_nil, false_implies, implies_true, and_true, true_and, okv_p, okv_sl, oks_s, oks_agg, oks_tup, oka_s, oka_agg, okv_v, nat4_okk, nat8_okk, arr_okk, iarr_okk]) (by simp only [List.length_cons, List.length_nil, List.map_cons, List.map_nil, List.nodup_cons, List.nodup_nil, List.mem_cons, Nat.reduceAdd, Nat.reduceEqDiff, or_false, not_false_eq_true, forall_eq_or_imp, forall_eq, or_self, Nat.reduceLT, Nat.reduceLeDiff, and_self, List.forall_mem_cons, List.not_mem_nil, false_implies, implies_true, and_true, true_and, okv_p, okv_sl, oks_s, oks_agg, oks_tup, oka_s, oka_agg, okv_v, nat4_okk, nat8_okk, arr_okk, iarr_okk]) fun w => ?_
  simp only [List.length_cons, List.length_nil, Tryz.ntmps96, Nat.reduceAdd, Nat.reduceSub, List.replicate_succ, List.replicate_zero, List.cons_append, List.nil_append]
  (repeat (refine X_of _ ?_; simp -implicitDefEqProofs (maxSteps := 1000000) (disch := first | exact dzSKL | fail) only [vcR, vcT, simprocAttr, Ab.part, implies_true, forall_const, Tryz.f96, List.toList_toArray]))
  refine X_loop (ι := Nat) (fun i => i ≤ 4) (fun i => 4 - i) [6, 7, 8, 9, 10, 11, 12, 13, 15, 16, 17, 18, 19, 20, 21, 22, 23, 24, 25, 26, 27, 28, 29, 30, 31, 32, 33, 34, 35, 36, 37, 38, 39, 40, 41, 42, 43, 44, 45, 46, 47, 48, 49, 50, 51, 52, 53, 54, 55, 56, 57, 58, 59, 60, 61, 62]
    (fun i => [(15, .s (.v (.int .i64 (i : Nat))))])
    (fun i => [(3, nat8 (a % 2 ^ (64 * i) * b))]) 0 (shape_of fun i => ?_) (by decide) ?_ ?_
  · simp only [List.length_cons, List.length_nil, List.map_cons, List.map_nil, List.nodup_cons, List.nodup_nil, List.mem_cons, Nat.reduceAdd, Nat.reduceEqDiff, or_false, not_false_eq_true, forall_eq_or_imp, forall_eq, or_self, Nat.reduceLT, Nat.reduceLeDiff, and_self, List.forall_mem_cons, List.not_mem_nil, false_implies, implies_true, and_true, true_and, okv_p, okv_sl, oks_s, oks_agg, oks_tup, oka_s, oka_agg, okv_v, nat4_okk, nat8_okk, arr_okk, iarr_okk]
  · simp -implicitDefEqProofs (maxSteps := 1000000) (disch := first | exact dzSKL | fail) only [vcR, vcT, simprocAttr, Ab.part, implies_true, forall_const, Tryz.f96, List.toList_toArray, again_eq]
    rw [Nat.mod_one, Nat.zero_mul, arr8_zero]
    simp
  · intro i us hi
    (repeat (refine X_of _ ?_; simp -implicitDefEqProofs (maxSteps := 1000000) (disch := first | exact dzSKL | fail) only [vcR, vcT, simprocAttr, Ab.part, implies_true, forall_const, Tryz.f96, List.toList_toArray]))
    refine ⟨fun h => ?_, fun h => ?_⟩
    · (repeat (refine X_of _ ?_; simp -implicitDefEqProofs (maxSteps := 1000000) (disch := first | exact dzSKL | fail) only [vcR, vcT, simprocAttr, Ab.part, implies_true, forall_const, Tryz.f96, List.toList_toArray]))
      refine X_loop (ι := Nat) (fun j => j ≤ 4) (fun j => 4 - j) [8, 9, 10, 11, 12, 13, 20, 21, 22, 23, 24, 25, 26, 27, 28, 29, 30, 31, 32, 33, 34, 35, 36, 37, 38, 39, 40, 41, 42, 43, 44, 45, 46, 47, 48, 49, 50, 51, 52, 53, 54, 55, 56, 57]
        (fun j => [(8, .s (.v (.int .u64 (mC a b i j : Nat)))), (20, .s (.v (.int .i64 (j : Nat))))])
        (fun j => [(3, arr 8 fun t => if t < i + j then wd (mV a b i j) t else wd (a % 2 ^ (64 * i) * b) t)]) 0 (shape_of fun i => ?_) (by decide) ?_ ?_
      · simp only [List.length_cons, List.length_nil, List.map_cons, List.map_nil, List.nodup_cons, List.nodup_nil, List.mem_cons, Nat.reduceAdd, Nat.reduceEqDiff, or_false, not_false_eq_true, forall_eq_or_imp, forall_eq, or_self, Nat.reduceLT, Nat.reduceLeDiff, and_self, List.forall_mem_cons, List.not_mem_nil, false_implies, implies_true, and_true, true_and, okv_p, okv_sl, oks_s, oks_agg, oks_tup, oka_s, oka_agg, okv_v, nat4_okk, nat8_okk, arr_okk, iarr_okk]
      · simp -implicitDefEqProofs (maxSteps := 1000000) (disch := first | exact dzSKL | fail) only [vcR, vcT, simprocAttr, Ab.part, implies_true, forall_const, Tryz.f96, List.toList_toArray, again_eq]
        rw [mC_zero, mV_zero]
        simp [nat8]
      · intro j us' hj
        (repeat (refine X_of _ ?_; simp -implicitDefEqProofs (maxSteps := 1000000) (disch := first | exact dzSKL | fail) only [vcR, vcT, simprocAttr, Ab.part, implies_true, forall_const, Tryz.f96, List.toList_toArray]))
        refine ⟨fun h' => ?_, fun h' => ?_⟩
        · have hx := wd_lt a i
          have hy := wd_lt b j
          have hw := wd_lt (a % 2 ^ (64 * i) * b) (i + j)
          have hc := mC_lt a b i j
          have hm := mul64_p (wd a i) (wd b j) hx hy
          have hxy := mul_word_le a b i j
          obtain ⟨z, hz⟩ : ∃ z, wd a i * wd b j = z := ⟨_, rfl⟩
          obtain ⟨u, hu⟩ : ∃ u, wd (a % 2 ^ (64 * i) * b) (i + j) = u := ⟨_, rfl⟩
          obtain ⟨c, hc'⟩ : ∃ c, mC a b i j = c := ⟨_, rfl⟩
          rw [hz] at hm hxy
          rw [hu] at hw
          rw [hc'] at hc
          have hz2 : z / 18446744073709551616 ≤ 18446744073709551614 := by omega
          clear hx hy hz2
          (repeat (refine X_of _ ?_; simp -implicitDefEqProofs (maxSteps := 1000000) (disch := first | exact dzSKL | fail) only [vcR, vcT, simprocAttr, Ab.part, implies_true, forall_const, Tryz.f96, List.toList_toArray, hu, hc']))
          (apply xcall_pure; kernel_rfl; exact PureC.cal (hm); try simp -implicitDefEqProofs (maxSteps := 1000000) (disch := first | exact dzSKL | fail) only [vcR, vcT, simprocAttr, Ab.part, implies_true, forall_const, Tryz.f96, List.toList_toArray, hu, hc'])
          (repeat (refine X_of _ ?_; simp -implicitDefEqProofs (maxSteps := 1000000) (disch := first | exact dzSKL | fail) only [vcR, vcT, simprocAttr, Ab.part, implies_true, forall_const, Tryz.f96, List.toList_toArray, hu, hc']))
          (apply xcall_ext; exact (add64_x (z % 18446744073709551616) u 0 (by decide)); simp only [List.length_cons, List.length_nil, List.map_cons, List.map_nil, List.nodup_cons, List.nodup_nil, List.mem_cons, Nat.reduceAdd, Nat.reduceEqDiff, or_false, not_false_eq_true, forall_eq_or_imp, forall_eq, or_self, Nat.reduceLT, Nat.reduceLeDiff, and_self, List.forall_mem_cons, List.not_mem_nil, false_implies, implies_true, and_true, true_and, okv_p, okv_sl, oks_s, oks_agg, oks_tup, oka_s, oka_agg, okv_v, nat4_okk, nat8_okk, arr_okk, iarr_okk]; try simp -implicitDefEqProofs (maxSteps := 1000000) (disch := first | exact dzSKL | fail) only [vcR, vcT, simprocAttr, Ab.part, implies_true, forall_const, Tryz.f96, List.toList_toArray, hu, hc'])
          (repeat (refine X_of _ ?_; simp -implicitDefEqProofs (maxSteps := 1000000) (disch := first | exact dzSKL | fail) only [vcR, vcT, simprocAttr, Ab.part, implies_true, forall_const, Tryz.f96, List.toList_toArray, hu, hc']))
          (apply xcall_ext; exact (add64_x ((z % 18446744073709551616 + u) % 18446744073709551616) c 0 (by decide)); simp only [List.length_cons, List.length_nil, List.map_cons, List.map_nil, List.nodup_cons, List.nodup_nil, List.mem_cons, Nat.reduceAdd, Nat.reduceEqDiff, or_false, not_false_eq_true, forall_eq_or_imp, forall_eq, or_self, Nat.reduceLT, Nat.reduceLeDiff, and_self, List.forall_mem_cons, List.not_mem_nil, false_implies, implies_true, and_true, true_and, okv_p, okv_sl, oks_s, oks_agg, oks_tup, oka_s, oka_agg, okv_v, nat4_okk, nat8_okk, arr_okk, iarr_okk]; try simp -implicitDefEqProofs (maxSteps := 1000000) (disch := first | exact dzSKL | fail) only [vcR, vcT, simprocAttr, Ab.part, implies_true, forall_const, Tryz.f96, List.toList_toArray, hu, hc'])
          (repeat (refine X_of _ ?_; simp -implicitDefEqProofs (maxSteps := 1000000) (disch := first | exact dzSKL | fail) only [vcR, vcT, simprocAttr, Ab.part, implies_true, forall_const, Tryz.f96, List.toList_toArray, hu, hc']))
          refine ⟨j + 1, by omega, ?_⟩
          simp -implicitDefEqProofs (maxSteps := 1000000) (disch := first | exact dzSKL | fail) only [vcR, vcT, simprocAttr, Ab.part, implies_true, forall_const, Tryz.f96, List.toList_toArray, again_eq]
          have hst := m_step a b i j
          rw [hz, hu, hc'] at hst
          exact ⟨by rw [hst.1]; omega, _, m_arr a b i j _ (by rw [hz, hu, hc']; omega), rfl⟩
        · have h4 : j = 4 := by omega
          subst h4
          (repeat (refine X_of _ ?_; simp -implicitDefEqProofs (maxSteps := 1000000) (disch := first | exact dzSKL | fail) only [vcR, vcT, simprocAttr, Ab.part, implies_true, forall_const, Tryz.f96, List.toList_toArray]))
          refine ⟨i + 1, by omega, ?_⟩
          simp -implicitDefEqProofs (maxSteps := 1000000) (disch := first | exact dzSKL | fail) only [vcR, vcT, simprocAttr, Ab.part, implies_true, forall_const, Tryz.f96, List.toList_toArray, again_eq]
          rw [m_last a b i hb (by omega)]
          simp
    · (repeat (refine X_of _ ?_; simp -implicitDefEqProofs (maxSteps := 1000000) (disch := first | exact dzSKL | fail) only [vcR, vcT, simprocAttr, Ab.part, implies_true, forall_const, Tryz.f96, List.toList_toArray]))
      have : i = 4 := by omega
      subst this
      rw [show 64 * 4 = 256 from rfl, Nat.mod_eq_of_lt ha]
end Go.Proofs.YtdmcknmjdlghgaaGreatDoor
namespace Go.Proofs.YtdmcknmjdlghgaaGreatDoor
open Go Go.Ab
set_option linter.unusedSimpArgs false
set_option linter.unusedVariables false
set_option maxHeartbeats 20000000
end Go.Proofs.YtdmcknmjdlghgaaGreatDoor
namespace Go.Proofs.YtdmcknmjdlghgaaGreatDoor
open Go Go.Ab
set_option linter.unusedSimpArgs false
set_option linter.unusedVariables false
set_option maxHeartbeats 20000000
end Go.Proofs.YtdmcknmjdlghgaaGreatDoor
