/-
  Texts laid together: L12, L13, L14, L15, L16, L17, L18.
-/
import Derived.Shelf.Spec.BitsCarry
import Derived.Test.YtdmcknmjdlghgaaGreatDoorV01
import Derived.Test.YtdmcknmjdlghgaaGreatDoorV02
import Derived.Test.YtdmcknmjdlghgaaGreatDoorV03
namespace Go.Proofs.YtdmcknmjdlghgaaGreatDoor
open Go Go.Ab
set_option linter.unusedSimpArgs false
set_option linter.unusedVariables false
set_option maxHeartbeats 20000000
theorem dzSKR {p : Prop} (h : p := by first | (simp only [nat4_length, nat8_length, arr_length, iarr_length, dgs_length, List.length_cons, List.length_nil, Nat.reduceAdd]; done) | omega) : p := h
theorem rnat_c (a : Nat) (ha : a < 2 ^ 256) : PureC Tryz.prog 44 [.agg (nat4 a)] (.agg (dgs a)) := by
  refine pureC_of Tryz.func44 rfl (by simp only [List.length_cons, List.length_nil, List.map_cons, List.map_nil, List.nodup_cons, List.nodup_nil, List.mem_cons, Nat.reduceAdd, Nat.reduceEqDiff, or_false, not_false_eq_true, forall_eq_or_imp, forall_eq, or_self, Nat.reduceLT, Nat.reduceLeDiff, and_self, List.forall_mem_cons, List.not_mem_nil, false_implies, implies_true, and_true, true_and, okv_p, okv_sl, oks_s, oks_agg, oks_tup, oka_s, oka_agg, okv_v, nat4_okk, nat8_okk, arr_okk, iarr_okk, dgs_okk]) (by simp only [List.length_cons, List.length_nil, List.map_cons, List.map_nil, List.nodup_cons, List.nodup_nil, List.mem_cons, Nat.reduceAdd, Nat.reduceEqDiff, or_false, not_false_eq_true, forall_eq_or_imp, forall_eq, or_self, Nat.reduceLT, Nat.reduceLeDiff, and_self, List.forall_mem_cons, List.not_mem_nil, false_implies, implies_true, and_true, true_and, okv_p, okv_sl, oks_s, oks_agg, oks_tup, oka_s, oka_agg, okv_v, nat4_okk, nat8_okk, arr_okk, iarr_okk, dgs_okk]) fun w => ?_
  simp only [List.length_cons, List.length_nil, Tryz.ntmps44, Nat.reduceAdd, Nat.reduceSub, List.replicate_succ, List.replicate_zero, List.cons_append, List.nil_append]
  (repeat (refine X_of _ ?_; simp -implicitDefEqProofs (maxSteps := 1000000) (disch := first | exact dzSKR | fail) only [vcR, vcT, simprocAttr, Ab.part, implies_true, forall_const, dgs_length, dgs_one, dgs_get, tmodL, tdivL, Tryz.f44, List.toList_toArray]))
  refine X_loop (ι := Nat) (fun k => k ≤ 32) (fun k => 32 - k) [4, 5, 6, 7, 8, 9, 10, 11, 12, 13, 14, 15, 16, 17, 18, 19, 20]
    (fun k => [(4, .s (.v (.int .i64 (k : Nat))))])
    (fun k => [(2, iarr 64 fun i => if i < k then ((wd8 a i : Nat) : Int) else 0)]) 0 (shape_of fun i => ?_) (by decide) ?_ ?_
  · simp only [List.length_cons, List.length_nil, List.map_cons, List.map_nil, List.nodup_cons, List.nodup_nil, List.mem_cons, Nat.reduceAdd, Nat.reduceEqDiff, or_false, not_false_eq_true, forall_eq_or_imp, forall_eq, or_self, Nat.reduceLT, Nat.reduceLeDiff, and_self, List.forall_mem_cons, List.not_mem_nil, false_implies, implies_true, and_true, true_and, okv_p, okv_sl, oks_s, oks_agg, oks_tup, oka_s, oka_agg, okv_v, nat4_okk, nat8_okk, arr_okk, iarr_okk, dgs_okk]
  · simp -implicitDefEqProofs (maxSteps := 1000000) (disch := first | exact dzSKR | fail) only [vcR, vcT, simprocAttr, Ab.part, implies_true, forall_const, dgs_length, dgs_one, dgs_get, tmodL, tdivL, Tryz.f44, List.toList_toArray, again_eq]
    simp
  · intro k us hk
    have hz : ∀ i, 32 ≤ i → wd8 a i = 0 := fun i hi => wd8_of_lt a i 32 ha hi
    clear ha
    (repeat (refine X_of _ ?_; simp -implicitDefEqProofs (maxSteps := 1000000) (disch := first | exact dzSKR | fail) only [vcR, vcT, simprocAttr, Ab.part, implies_true, forall_const, dgs_length, dgs_one, dgs_get, tmodL, tdivL, Tryz.f44, List.toList_toArray]))
    refine ⟨fun h => ?_, fun h => ?_⟩
    · have hw := wd_lt a (k / 8)
      have hd := wd_digit a k
      have hd8 := wd8_lt a k
      have hs : wd a (k / 8) / 2 ^ (8 * (k % 8)) < 18446744073709551616 := Nat.lt_of_le_of_lt (Nat.div_le_self _ _) hw
      (repeat (refine X_of _ ?_; simp -implicitDefEqProofs (maxSteps := 1000000) (disch := first | exact dzSKR | fail) only [vcR, vcT, simprocAttr, Ab.part, implies_true, forall_const, dgs_length, dgs_one, dgs_get, tmodL, tdivL, Tryz.f44, List.toList_toArray, hd, wi64]))
      refine ⟨k + 1, by omega, ?_⟩
      simp -implicitDefEqProofs (maxSteps := 1000000) (disch := first | exact dzSKR | fail) only [vcR, vcT, simprocAttr, Ab.part, implies_true, forall_const, dgs_length, dgs_one, dgs_get, tmodL, tdivL, Tryz.f44, List.toList_toArray, again_eq]
      exact ⟨_, iarr_congr fun i hi => upd_digit (f := fun i => ((wd8 a i : Nat) : Int)) rfl, rfl⟩
    · have : k = 32 := by omega
      subst this
      (repeat (refine X_of _ ?_; simp -implicitDefEqProofs (maxSteps := 1000000) (disch := first | exact dzSKR | fail) only [vcR, vcT, simprocAttr, Ab.part, implies_true, forall_const, dgs_length, dgs_one, dgs_get, tmodL, tdivL, Tryz.f44, List.toList_toArray]))
      refine iarr_congr fun i hi => ?_
      by_cases h1 : i < 32
      · rw [if_pos h1]
      · rw [if_neg h1, hz i (by omega)]; rfl
theorem rlow_c (q : Nat) : PureC Tryz.prog 45 [.agg (dgs q)] (.agg (nat4 q)) := by
  refine pureC_of Tryz.func45 rfl (by simp only [List.length_cons, List.length_nil, List.map_cons, List.map_nil, List.nodup_cons, List.nodup_nil, List.mem_cons, Nat.reduceAdd, Nat.reduceEqDiff, or_false, not_false_eq_true, forall_eq_or_imp, forall_eq, or_self, Nat.reduceLT, Nat.reduceLeDiff, and_self, List.forall_mem_cons, List.not_mem_nil, false_implies, implies_true, and_true, true_and, okv_p, okv_sl, oks_s, oks_agg, oks_tup, oka_s, oka_agg, okv_v, nat4_okk, nat8_okk, arr_okk, iarr_okk, dgs_okk]) (by simp only [List.length_cons, List.length_nil, List.map_cons, List.map_nil, List.nodup_cons, List.nodup_nil, List.mem_cons, Nat.reduceAdd, Nat.reduceEqDiff, or_false, not_false_eq_true, forall_eq_or_imp, forall_eq, or_self, Nat.reduceLT, Nat.reduceLeDiff, and_self, List.forall_mem_cons, List.not_mem_nil, false_implies, implies_true, and_true, true_and, okv_p, okv_sl, oks_s, oks_agg, oks_tup, oka_s, oka_agg, okv_v, nat4_okk, nat8_okk, arr_okk, iarr_okk, dgs_okk]) fun w => ?_
  simp only [List.length_cons, List.length_nil, Tryz.ntmps45, Nat.reduceAdd, Nat.reduceSub, List.replicate_succ, List.replicate_zero, List.cons_append, List.nil_append]
  (repeat (refine X_of _ ?_; simp -implicitDefEqProofs (maxSteps := 1000000) (disch := first | exact dzSKR | fail) only [vcR, vcT, simprocAttr, Ab.part, implies_true, forall_const, dgs_length, dgs_one, dgs_get, tmodL, tdivL, Tryz.f45, List.toList_toArray, arr4_zero]))
  refine X_loop (ι := Nat) (fun k => k ≤ 32) (fun k => 32 - k) [4, 6, 7, 8, 9, 10, 11, 12, 13, 14, 15, 16, 17, 18, 19, 20, 21, 22, 23, 24, 25]
    (fun k => [(4, .s (.v (.int .i64 (k : Nat))))])
    (fun k => [(2, nat4 (q % 2 ^ (8 * k)))]) 0 (shape_of fun i => ?_) (by decide) ?_ ?_
  · simp only [List.length_cons, List.length_nil, List.map_cons, List.map_nil, List.nodup_cons, List.nodup_nil, List.mem_cons, Nat.reduceAdd, Nat.reduceEqDiff, or_false, not_false_eq_true, forall_eq_or_imp, forall_eq, or_self, Nat.reduceLT, Nat.reduceLeDiff, and_self, List.forall_mem_cons, List.not_mem_nil, false_implies, implies_true, and_true, true_and, okv_p, okv_sl, oks_s, oks_agg, oks_tup, oka_s, oka_agg, okv_v, nat4_okk, nat8_okk, arr_okk, iarr_okk, dgs_okk]
  · simp -implicitDefEqProofs (maxSteps := 1000000) (disch := first | exact dzSKR | fail) only [vcR, vcT, simprocAttr, Ab.part, implies_true, forall_const, dgs_length, dgs_one, dgs_get, tmodL, tdivL, Tryz.f45, List.toList_toArray, again_eq]
    try rw [Nat.mod_one]
    simp
  · intro k us hk
    (repeat (refine X_of _ ?_; simp -implicitDefEqProofs (maxSteps := 1000000) (disch := first | exact dzSKR | fail) only [vcR, vcT, simprocAttr, Ab.part, implies_true, forall_const, dgs_length, dgs_one, dgs_get, tmodL, tdivL, Tryz.f45, List.toList_toArray]))
    refine ⟨fun h => ?_, fun h => ?_⟩
    · have hup := dig_up q k 4 (by omega)
      have hw0 := wd_lt (q % 2 ^ (8 * k)) (k / 8)
      have hd := wd8_lt q k
      obtain ⟨r, hre⟩ : ∃ r, q % 2 ^ (8 * k) = r := ⟨_, rfl⟩
      obtain ⟨b, hbe⟩ : ∃ b, wd8 q k = b := ⟨_, rfl⟩
      obtain ⟨h1, h2⟩ := hup
      rw [hre, hbe] at h1 h2
      rw [hre] at hw0
      rw [hbe] at hd
      rw [hre]
      have h3 : b * 2 ^ (8 * (k % 8)) < 18446744073709551616 := by omega
      (repeat (refine X_of _ ?_; simp -implicitDefEqProofs (maxSteps := 1000000) (disch := first | exact dzSKR | fail) only [vcR, vcT, simprocAttr, Ab.part, implies_true, forall_const, dgs_length, dgs_one, dgs_get, tmodL, tdivL, Tryz.f45, List.toList_toArray]))
      (refine X_draw 16 (by kernel_rfl) (by kernel_rfl) ?_; simp only [List.take_succ_cons, List.take_zero, List.drop_succ_cons, List.drop_zero]; simp -implicitDefEqProofs (maxSteps := 1000000) (disch := first | exact dzSKR | fail) only [vcR, vcT, simprocAttr, Ab.part, implies_true, forall_const, dgs_length, dgs_one, dgs_get, tmodL, tdivL, Tryz.f45, List.toList_toArray, hbe, w64])
      (repeat (refine X_of _ ?_; simp -implicitDefEqProofs (maxSteps := 1000000) (disch := first | exact dzSKR | fail) only [vcR, vcT, simprocAttr, Ab.part, implies_true, forall_const, dgs_length, dgs_one, dgs_get, tmodL, tdivL, Tryz.f45, List.toList_toArray, hbe, w64, h1]))
      refine ⟨k + 1, by omega, ?_⟩
      simp -implicitDefEqProofs (maxSteps := 1000000) (disch := first | exact dzSKR | fail) only [vcR, vcT, simprocAttr, Ab.part, implies_true, forall_const, dgs_length, dgs_one, dgs_get, tmodL, tdivL, Tryz.f45, List.toList_toArray, again_eq]
      try simp [nat4]
    · have : k = 32 := by omega
      subst this
      (repeat (refine X_of _ ?_; simp -implicitDefEqProofs (maxSteps := 1000000) (disch := first | exact dzSKR | fail) only [vcR, vcT, simprocAttr, Ab.part, implies_true, forall_const, dgs_length, dgs_one, dgs_get, tmodL, tdivL, Tryz.f45, List.toList_toArray]))
      exact nat4_mod q
theorem rplus_c (a b : Nat) : PureC Tryz.prog 65 [.agg (dgs a), .agg (dgs b)] (.agg (dgs (a + b))) := by
  refine pureC_of Tryz.func65 rfl (by simp only [List.length_cons, List.length_nil, List.map_cons, List.map_nil, List.nodup_cons, List.nodup_nil, List.mem_cons, Nat.reduceAdd, Nat.reduceEqDiff, or_false, not_false_eq_true, forall_eq_or_imp, forall_eq, or_self, Nat.reduceLT, Nat.reduceLeDiff, and_self, List.forall_mem_cons, List.not_mem_nil, false_implies, implies_true, and_true, true_and, okv_p, okv_sl, oks_s, oks_agg, oks_tup, oka_s, oka_agg, okv_v, nat4_okk, nat8_okk, arr_okk, iarr_okk, dgs_okk]) (by simp only [List.length_cons, List.length_nil, List.map_cons, List.map_nil, List.nodup_cons, List.nodup_nil, List.mem_cons, Nat.reduceAdd, Nat.reduceEqDiff, or_false, not_false_eq_true, forall_eq_or_imp, forall_eq, or_self, Nat.reduceLT, Nat.reduceLeDiff, and_self, List.forall_mem_cons, List.not_mem_nil, false_implies, implies_true, and_true, true_and, okv_p, okv_sl, oks_s, oks_agg, oks_tup, oka_s, oka_agg, okv_v, nat4_okk, nat8_okk, arr_okk, iarr_okk, dgs_okk]) fun w => ?_
  simp only [List.length_cons, List.length_nil, Tryz.ntmps65, Nat.reduceAdd, Nat.reduceSub, List.replicate_succ, List.replicate_zero, List.cons_append, List.nil_append]
  (repeat (refine X_of _ ?_; simp -implicitDefEqProofs (maxSteps := 1000000) (disch := first | exact dzSKR | fail) only [vcR, vcT, simprocAttr, Ab.part, implies_true, forall_const, dgs_length, dgs_one, dgs_get, tmodL, tdivL, Tryz.f65, List.toList_toArray]))
  refine X_loop (ι := Nat) (fun k => k ≤ 64) (fun k => 64 - k) [6, 7, 8, 9, 10, 11, 12, 13, 14, 15, 16, 17, 18, 19, 20, 21, 22, 23, 24, 25, 26, 27]
    (fun k => [(6, .s (.v (.int .i64 (cy8 a b k : Nat)))), (7, .s (.v (.int .i64 (k : Nat))))])
    (fun k => [(3, iarr 64 fun i => if i < k then ((wd8 (a + b) i : Nat) : Int) else 0)]) 0 (shape_of fun i => ?_) (by decide) ?_ ?_
  · simp only [List.length_cons, List.length_nil, List.map_cons, List.map_nil, List.nodup_cons, List.nodup_nil, List.mem_cons, Nat.reduceAdd, Nat.reduceEqDiff, or_false, not_false_eq_true, forall_eq_or_imp, forall_eq, or_self, Nat.reduceLT, Nat.reduceLeDiff, and_self, List.forall_mem_cons, List.not_mem_nil, false_implies, implies_true, and_true, true_and, okv_p, okv_sl, oks_s, oks_agg, oks_tup, oka_s, oka_agg, okv_v, nat4_okk, nat8_okk, arr_okk, iarr_okk, dgs_okk]
  · simp -implicitDefEqProofs (maxSteps := 1000000) (disch := first | exact dzSKR | fail) only [vcR, vcT, simprocAttr, Ab.part, implies_true, forall_const, dgs_length, dgs_one, dgs_get, tmodL, tdivL, Tryz.f65, List.toList_toArray, again_eq]
    simp [cy_zero8]
  · intro k us hk
    (repeat (refine X_of _ ?_; simp -implicitDefEqProofs (maxSteps := 1000000) (disch := first | exact dzSKR | fail) only [vcR, vcT, simprocAttr, Ab.part, implies_true, forall_const, dgs_length, dgs_one, dgs_get, tmodL, tdivL, Tryz.f65, List.toList_toArray]))
    refine ⟨fun h => ?_, fun h => ?_⟩
    · have hc := cy_add8 a b k
      have hw := wd8_lt (a + b) k
      have hwa := wd8_lt a k
      have hwb := wd8_lt b k
      have hcy := cy_le8 a b k
      (repeat (refine X_of _ ?_; simp -implicitDefEqProofs (maxSteps := 1000000) (disch := first | exact dzSKR | fail) only [vcR, vcT, simprocAttr, Ab.part, implies_true, forall_const, dgs_length, dgs_one, dgs_get, tmodL, tdivL, Tryz.f65, List.toList_toArray]))
      (refine X_draw 10 (by kernel_rfl) (by kernel_rfl) ?_; simp only [List.take_succ_cons, List.take_zero, List.drop_succ_cons, List.drop_zero]; simp -implicitDefEqProofs (maxSteps := 1000000) (disch := first | exact dzSKR | fail) only [vcR, vcT, simprocAttr, Ab.part, implies_true, forall_const, dgs_length, dgs_one, dgs_get, tmodL, tdivL, Tryz.f65, List.toList_toArray, wi64])
      (repeat (refine X_of _ ?_; simp -implicitDefEqProofs (maxSteps := 1000000) (disch := first | exact dzSKR | fail) only [vcR, vcT, simprocAttr, Ab.part, implies_true, forall_const, dgs_length, dgs_one, dgs_get, tmodL, tdivL, Tryz.f65, List.toList_toArray, wi64]))
      refine ⟨k + 1, by omega, ?_⟩
      simp -implicitDefEqProofs (maxSteps := 1000000) (disch := first | exact dzSKR | fail) only [vcR, vcT, simprocAttr, Ab.part, implies_true, forall_const, dgs_length, dgs_one, dgs_get, tmodL, tdivL, Tryz.f65, List.toList_toArray, again_eq]
      exact ⟨by omega, _, iarr_congr fun i hi => upd_digit (f := fun i => ((wd8 (a + b) i : Nat) : Int)) (by omega), rfl⟩
    · have : k = 64 := by omega
      subst this
      (repeat (refine X_of _ ?_; simp -implicitDefEqProofs (maxSteps := 1000000) (disch := first | exact dzSKR | fail) only [vcR, vcT, simprocAttr, Ab.part, implies_true, forall_const, dgs_length, dgs_one, dgs_get, tmodL, tdivL, Tryz.f65, List.toList_toArray]))
      exact iarr_congr fun i hi => if_pos hi
theorem rless_c (a b d c : Nat) (ha : a < 2 ^ 512) (hb : b < 2 ^ 512) (hd : d < 2 ^ 512) (he : d + b = a + 2 ^ 512 * c) : PureC Tryz.prog 51 [.agg (dgs a), .agg (dgs b)] (.tup [.agg (dgs d), .s (.v (.bool (c == 1)))]) := by
  have hlast : cy8 d b 64 = c := by
    rw [cy8_64 d b hd hb, he]
    exact (Nat.add_mul_div_left a c (Nat.two_pow_pos 512)).trans (by rw [Nat.div_eq_of_lt ha, Nat.zero_add])
  have hstep : ∀ k, k < 64 → wd8 d k + wd8 b k + cy8 d b k = wd8 a k + 256 * cy8 d b (k + 1) := fun k hk => by
    have := cy_add8 d b k
    rw [he, wd8_512 a c k hk] at this
    exact this
  clear ha hb hd he
  refine pureC_of Tryz.func51 rfl (by simp only [List.length_cons, List.length_nil, List.map_cons, List.map_nil, List.nodup_cons, List.nodup_nil, List.mem_cons, Nat.reduceAdd, Nat.reduceEqDiff, or_false, not_false_eq_true, forall_eq_or_imp, forall_eq, or_self, Nat.reduceLT, Nat.reduceLeDiff, and_self, List.forall_mem_cons, List.not_mem_nil, false_implies, implies_true, and_true, true_and, okv_p, okv_sl, oks_s, oks_agg, oks_tup, oka_s, oka_agg, okv_v, nat4_okk, nat8_okk, arr_okk, iarr_okk, dgs_okk]) (by simp only [List.length_cons, List.length_nil, List.map_cons, List.map_nil, List.nodup_cons, List.nodup_nil, List.mem_cons, Nat.reduceAdd, Nat.reduceEqDiff, or_false, not_false_eq_true, forall_eq_or_imp, forall_eq, or_self, Nat.reduceLT, Nat.reduceLeDiff, and_self, List.forall_mem_cons, List.not_mem_nil, false_implies, implies_true, and_true, true_and, okv_p, okv_sl, oks_s, oks_agg, oks_tup, oka_s, oka_agg, okv_v, nat4_okk, nat8_okk, arr_okk, iarr_okk, dgs_okk]) fun w => ?_
  simp only [List.length_cons, List.length_nil, Tryz.ntmps51, Nat.reduceAdd, Nat.reduceSub, List.replicate_succ, List.replicate_zero, List.cons_append, List.nil_append]
  (repeat (refine X_of _ ?_; simp -implicitDefEqProofs (maxSteps := 1000000) (disch := first | exact dzSKR | fail) only [vcR, vcT, simprocAttr, Ab.part, implies_true, forall_const, dgs_length, dgs_one, dgs_get, tmodL, tdivL, Tryz.f51, List.toList_toArray]))
  refine X_loop (ι := Nat) (fun k => k ≤ 64) (fun k => 64 - k) [7, 8, 9, 10, 11, 12, 13, 14, 15, 16, 17, 18, 19, 20, 21, 22, 23, 24, 25, 26, 27, 28, 29, 30]
    (fun k => [(7, .s (.v (.int .i64 (cy8 d b k : Nat)))), (8, .s (.v (.int .i64 (k : Nat))))])
    (fun k => [(3, iarr 64 fun i => if i < k then ((wd8 d i : Nat) : Int) else 0)]) 0 (shape_of fun i => ?_) (by decide) ?_ ?_
  · simp only [List.length_cons, List.length_nil, List.map_cons, List.map_nil, List.nodup_cons, List.nodup_nil, List.mem_cons, Nat.reduceAdd, Nat.reduceEqDiff, or_false, not_false_eq_true, forall_eq_or_imp, forall_eq, or_self, Nat.reduceLT, Nat.reduceLeDiff, and_self, List.forall_mem_cons, List.not_mem_nil, false_implies, implies_true, and_true, true_and, okv_p, okv_sl, oks_s, oks_agg, oks_tup, oka_s, oka_agg, okv_v, nat4_okk, nat8_okk, arr_okk, iarr_okk, dgs_okk]
  · simp -implicitDefEqProofs (maxSteps := 1000000) (disch := first | exact dzSKR | fail) only [vcR, vcT, simprocAttr, Ab.part, implies_true, forall_const, dgs_length, dgs_one, dgs_get, tmodL, tdivL, Tryz.f51, List.toList_toArray, again_eq]
    simp [cy_zero8]
  · intro k us hk
    (repeat (refine X_of _ ?_; simp -implicitDefEqProofs (maxSteps := 1000000) (disch := first | exact dzSKR | fail) only [vcR, vcT, simprocAttr, Ab.part, implies_true, forall_const, dgs_length, dgs_one, dgs_get, tmodL, tdivL, Tryz.f51, List.toList_toArray]))
    refine ⟨fun h => ?_, fun h => ?_⟩
    · have hc := hstep k (by omega)
      have hw := wd8_lt d k
      have hwa := wd8_lt a k
      have hwb := wd8_lt b k
      have hcy := cy_le8 d b k
      have hcy2 := cy_le8 d b (k + 1)
      have e1 : IntKind.i64.wrap ((wd8 a k : Int) - (wd8 b k : Int)) = (wd8 a k : Int) - (wd8 b k : Int) := wrap_i64_id (by omega)
      have e2 : IntKind.i64.wrap ((wd8 a k : Int) - (wd8 b k : Int) - (cy8 d b k : Int)) = (wd8 a k : Int) - (wd8 b k : Int) - (cy8 d b k : Int) := wrap_i64_id (by omega)
      have e3 : (wd8 a k : Int) - (wd8 b k : Int) - (cy8 d b k : Int) + 256 = ((wd8 a k + 256 - wd8 b k - cy8 d b k : Nat) : Int) := by omega
      obtain ⟨x, hx⟩ : ∃ x, wd8 a k + 256 - wd8 b k - cy8 d b k = x := ⟨_, rfl⟩
      rw [hx] at e3
      (repeat (refine X_of _ ?_; simp -implicitDefEqProofs (maxSteps := 1000000) (disch := first | exact dzSKR | fail) only [vcR, vcT, simprocAttr, Ab.part, implies_true, forall_const, dgs_length, dgs_one, dgs_get, tmodL, tdivL, Tryz.f51, List.toList_toArray]))
      (refine X_draw 11 (by kernel_rfl) (by kernel_rfl) ?_; simp only [List.take_succ_cons, List.take_zero, List.drop_succ_cons, List.drop_zero]; simp -implicitDefEqProofs (maxSteps := 1000000) (disch := first | exact dzSKR | fail) only [vcR, vcT, simprocAttr, Ab.part, implies_true, forall_const, dgs_length, dgs_one, dgs_get, tmodL, tdivL, Tryz.f51, List.toList_toArray, e1, e2, e3, wi64])
      (repeat (refine X_of _ ?_; simp -implicitDefEqProofs (maxSteps := 1000000) (disch := first | exact dzSKR | fail) only [vcR, vcT, simprocAttr, Ab.part, implies_true, forall_const, dgs_length, dgs_one, dgs_get, tmodL, tdivL, Tryz.f51, List.toList_toArray, wi64]))
      refine ⟨k + 1, by omega, ?_⟩
      simp -implicitDefEqProofs (maxSteps := 1000000) (disch := first | exact dzSKR | fail) only [vcR, vcT, simprocAttr, Ab.part, implies_true, forall_const, dgs_length, dgs_one, dgs_get, tmodL, tdivL, Tryz.f51, List.toList_toArray, again_eq]
      exact ⟨by omega, _, iarr_congr fun i hi => upd_digit (f := fun i => ((wd8 d i : Nat) : Int)) (by omega), rfl⟩
    · have : k = 64 := by omega
      subst this
      rw [hlast]
      (repeat (refine X_of _ ?_; simp -implicitDefEqProofs (maxSteps := 1000000) (disch := first | exact dzSKR | fail) only [vcR, vcT, simprocAttr, Ab.part, implies_true, forall_const, dgs_length, dgs_one, dgs_get, tmodL, tdivL, Tryz.f51, List.toList_toArray]))
      exact iarr_congr fun i hi => if_pos hi
end Go.Proofs.YtdmcknmjdlghgaaGreatDoor
namespace Go.Proofs.YtdmcknmjdlghgaaGreatDoor
open Go Go.Ab
set_option linter.unusedSimpArgs false
set_option linter.unusedVariables false
set_option maxHeartbeats 20000000
theorem litsEq_self (l : List Lit) : litsEq l l = true := (litsEq_iff l l).2 rfl
end Go.Proofs.YtdmcknmjdlghgaaGreatDoor
namespace Go.Proofs.YtdmcknmjdlghgaaGreatDoor
open Go Go.Ab
set_option linter.unusedSimpArgs false
set_option linter.unusedVariables false
set_option linter.defProp false
set_option maxHeartbeats 20000000
set_option maxRecDepth 100000
end Go.Proofs.YtdmcknmjdlghgaaGreatDoor
namespace Go.Proofs.YtdmcknmjdlghgaaGreatDoor
open Go Go.Ab
set_option linter.unusedSimpArgs false
set_option linter.unusedVariables false
set_option linter.defProp false
set_option maxHeartbeats 20000000
set_option maxRecDepth 100000
end Go.Proofs.YtdmcknmjdlghgaaGreatDoor
namespace Go.Proofs.YtdmcknmjdlghgaaGreatDoor
open Go Go.Ab
set_option linter.unusedSimpArgs false
set_option linter.unusedVariables false
set_option linter.defProp false
set_option maxHeartbeats 20000000
set_option maxRecDepth 100000
theorem eq_P0 (P x a : Nat) (h : x = a) : x = a + P * 0 := by rw [Nat.mul_zero, Nat.add_zero]; exact h
theorem eq_P1 (P x a : Nat) (h : x = a + P) : x = a + P * 1 := by rw [Nat.mul_one]; exact h
theorem rless_0 (a b d : Nat) (ha : a < 2 ^ 512) (hb : b < 2 ^ 512) (hd : d < 2 ^ 512) (he : d + b = a) : PureC Tryz.prog 51 [.agg (dgs a), .agg (dgs b)] (.tup [.agg (dgs d), .s (.v (.bool false))]) :=
  rless_c a b d 0 ha hb hd (by have h := eq_P0 (2 ^ 512) (d + b) a he; exact h)
theorem rless_1 (a b d : Nat) (ha : a < 2 ^ 512) (hb : b < 2 ^ 512) (hd : d < 2 ^ 512) (he : d + b = a + 2 ^ 512) : PureC Tryz.prog 51 [.agg (dgs a), .agg (dgs b)] (.tup [.agg (dgs d), .s (.v (.bool true))]) :=
  rless_c a b d 1 ha hb hd (by have h := eq_P1 (2 ^ 512) (d + b) a he; exact h)
end Go.Proofs.YtdmcknmjdlghgaaGreatDoor
namespace Go.Proofs.YtdmcknmjdlghgaaGreatDoor
open Go Go.Ab
set_option linter.unusedSimpArgs false
set_option linter.unusedVariables false
set_option linter.defProp false
def vcXL17 := (And.intro (And.intro (And.intro (And.intro (And.intro @dgs_length @dgs_one) (And.intro @dgs_get @qm_call)) (And.intro (And.intro @qm_move @qm_assign) (And.intro @qm_pick (And.intro @qm_build @qm_load)))) (And.intro (And.intro (And.intro @qm_nilCheck @qm_binOp) (And.intro @qm_unOp @qm_convert)) (And.intro (And.intro @qm_fieldAddr @qm_field) (And.intro @qm_indexAddr (And.intro @qm_index @qm_extract))))) (And.intro (And.intro (And.intro (And.intro @qm_makeFunc @xcalledM_first) (And.intro @xcalledM_cap @maskOK_p)) (And.intro (And.intro @maskOK_v @xcallHM_value) (And.intro @xcallHM_len (And.intro @xcalledM_some @xTrM_nil)))) (And.intro (And.intro (And.intro @xTrM_false @xTrM_cons) (And.intro @xAtM_assign @xAtM_move)) (And.intro (And.intro @xAtM_extract @xAtM_alloc) (And.intro @xAtM_store (And.intro @famL_nil @famL_cons))))))
def vcOL17 := (And.intro (And.intro (And.intro @okv_p (And.intro @okv_sl @oks_s)) (And.intro @oks_agg (And.intro @oks_tup @oka_s))) (And.intro (And.intro @oka_agg (And.intro @okv_v @nat4_okk)) (And.intro (And.intro @nat8_okk @arr_okk) (And.intro @iarr_okk @dgs_okk))))
set_option maxHeartbeats 20000000
set_option maxRecDepth 100000
theorem rrest_c (wv m : Nat) (hw : wv < 2 ^ 512) (hm : m < 2 ^ 256) (h0 : 0 < m) : PureC Tryz.prog 43 [.agg (dgs wv), .agg (dgs m)] (.tup [.agg (dgs (wv % m)), .agg (dgs (wv / m))]) := by
  refine pureC_of Tryz.func43 rfl (by simp only [List.length_cons, List.length_nil, List.map_cons, List.map_nil, List.nodup_cons, List.nodup_nil, List.mem_cons, Nat.reduceAdd, Nat.reduceEqDiff, or_false, not_false_eq_true, forall_eq_or_imp, forall_eq, or_self, Nat.reduceLT, Nat.reduceLeDiff, and_self, List.forall_mem_cons, List.not_mem_nil, false_implies, implies_true, and_true, true_and, vcOL17]) (by simp only [List.length_cons, List.length_nil, List.map_cons, List.map_nil, List.nodup_cons, List.nodup_nil, List.mem_cons, Nat.reduceAdd, Nat.reduceEqDiff, or_false, not_false_eq_true, forall_eq_or_imp, forall_eq, or_self, Nat.reduceLT, Nat.reduceLeDiff, and_self, List.forall_mem_cons, List.not_mem_nil, false_implies, implies_true, and_true, true_and, vcOL17]) fun w => ?_
  simp only [List.length_cons, List.length_nil, Tryz.ntmps43, Nat.reduceAdd, Nat.reduceSub, List.replicate_succ, List.replicate_zero, List.cons_append, List.nil_append]
  obtain ⟨g, hg⟩ : ∃ g : Nat → Nat, ∀ k, wv / 2 ^ k = g k := ⟨fun k => wv / 2 ^ k, fun _ => rfl⟩
  have hw0 : g 512 = 0 := (hg 512).symm.trans (Nat.div_eq_of_lt hw)
  have hg0 : g 0 = wv := by rw [← hg, Nat.pow_zero, Nat.div_one]
  clear hw
  (repeat (refine X_of _ ?_; simp -implicitDefEqProofs (maxSteps := 1000000) (disch := first | exact dzSKR | fail) only [vcR, vcT, simprocAttr, Ab.part, implies_true, forall_const, tmodL, tdivL, true_or, vcXL17, Tryz.f43, List.toList_toArray, dgs_zero]))
  refine X_loop (ι := Nat) (fun k => k ≤ 512) (fun k => k) [8, 9, 10, 11, 12, 13, 14, 15, 16, 17, 18, 19, 20, 21, 22, 23, 24, 25, 26, 27, 28, 29, 30, 31, 32, 33, 34, 35, 36, 37, 38, 39, 40, 41, 42, 43, 44, 45, 46, 47, 48, 49, 50, 51, 52, 53, 54, 55]
    (fun k => [(8, .s (.v (.bool (g k != 0)))), (9, .s (.v (.int .i64 ((k : Int) - 1))))])
    (fun k => [(4, dgs (g k % m)), (5, dgs (g k / m))]) 512 (shape_of fun i => ?_) (by decide) ?_ ?_
  · simp only [List.length_cons, List.length_nil, List.map_cons, List.map_nil, List.nodup_cons, List.nodup_nil, List.mem_cons, Nat.reduceAdd, Nat.reduceEqDiff, or_false, not_false_eq_true, forall_eq_or_imp, forall_eq, or_self, Nat.reduceLT, Nat.reduceLeDiff, and_self, List.forall_mem_cons, List.not_mem_nil, false_implies, implies_true, and_true, true_and, vcOL17]
  · simp -implicitDefEqProofs (maxSteps := 1000000) (disch := first | exact dzSKR | fail) only [vcR, vcT, simprocAttr, Ab.part, implies_true, forall_const, tmodL, tdivL, true_or, vcXL17, Tryz.f43, List.toList_toArray, again_eq]
    rw [hw0, Nat.zero_mod, Nat.zero_div]
    simp
  · clear hw0
    rintro (_ | k) us hk
    · (repeat (refine X_of _ ?_; simp -implicitDefEqProofs (maxSteps := 1000000) (disch := first | exact dzSKR | fail) only [vcR, vcT, simprocAttr, Ab.part, implies_true, forall_const, tmodL, tdivL, true_or, vcXL17, Tryz.f43, List.toList_toArray]))
      (refine X_drawM 2 [2,3] (.cons 2 (.cons 3 .nil .nil) .nil) (by kernel_rfl) (by kernel_rfl) ?_; simp only [List.take_succ_cons, List.take_zero])
      (repeat ((first | with_reducible refine XM_cons ?_ | with_reducible refine XM_consG ?_ | with_reducible refine XM_nil ?_); try simp -implicitDefEqProofs (maxSteps := 1000000) (disch := first | exact dzSKR | fail) only [vcR, vcT, simprocAttr, Ab.part, implies_true, forall_const, tmodL, tdivL, true_or, vcXL17, Tryz.f43, List.toList_toArray]))
      (repeat (refine X_of _ ?_; simp -implicitDefEqProofs (maxSteps := 1000000) (disch := first | exact dzSKR | fail) only [vcR, vcT, simprocAttr, Ab.part, implies_true, forall_const, tmodL, tdivL, true_or, vcXL17, Tryz.f43, List.toList_toArray]))
      try simp [hg0]
    · obtain ⟨v', hv'⟩ : ∃ v', wv / 2 ^ (k + 1) = v' := ⟨_, rfl⟩
      obtain ⟨u, hu⟩ : ∃ u, wv / 2 ^ k = u := ⟨_, rfl⟩
      have hgk := hg (k + 1)
      have hgu := hg k
      rw [hv'] at hgk
      rw [hu] at hgu
      have hbit := wd8_bit wv k
      rw [hu] at hbit
      have hd8 := wd8_lt wv (k / 8)
      have hs : wd8 wv (k / 8) / 2 ^ (k % 8) ≤ 255 := Nat.le_trans (Nat.div_le_self _ _) (by omega)
      obtain ⟨x, hx⟩ : ∃ x, wd8 wv (k / 8) / 2 ^ (k % 8) = x := ⟨_, rfl⟩
      obtain ⟨b, hb⟩ : ∃ b, u % 2 = b := ⟨_, rfl⟩
      rw [hx, hb] at hbit
      rw [hx] at hs
      have hb1 : b = 0 ∨ b = 1 := by omega
      have huv : u = 2 * v' + b := by
        have : u / 2 = v' := by rw [← hu, ← hv', Nat.pow_succ, Nat.div_div_eq_div_mul]
        omega
      have hdb := div_bit wv m k (2 * (v' % m) + b) h0 (by rw [hv', hu, hb])
      rw [hu, hv'] at hdb
      rw [← hgk]
      have hrm := Nat.mod_lt v' h0
      have hv0 : v' = 0 → v' % m = 0 ∧ v' / m = 0 := fun h => by subst h; simp
      obtain ⟨r, hr⟩ : ∃ r, v' % m = r := ⟨_, rfl⟩
      obtain ⟨o, ho⟩ : ∃ o, v' / m = o := ⟨_, rfl⟩
      rw [hr, ho] at hdb
      rw [hr] at hrm
      rw [hr, ho] at hv0
      rw [hr, ho]
      have hP := rplus_c r r
      have hO := rplus_c o o
      have hi1 := dgs_inc (r + r) b (by omega) (by omega)
      have he1 := wd8_even (r + r) (by omega)
      have hi2 := dgs_inc (o + o) 1 (by omega) (by omega)
      have he2 := wd8_even (o + o) (by omega)
      have hlt : b < 2 := by omega
      rw [show r + r + b = 2 * r + b by omega] at hi1
      obtain ⟨V, hV⟩ : ∃ V, 2 * r + b = V := ⟨_, rfl⟩
      rw [hV] at hdb hi1
      have hVl : V < 2 ^ 512 := by omega
      have hL : (m ≤ V → PureC Tryz.prog 51 [.agg (dgs V), .agg (dgs m)] (.tup [.agg (dgs (V - m)), .s (.v (.bool false))])) ∧
          (V < m → ∃ q, PureC Tryz.prog 51 [.agg (dgs V), .agg (dgs m)] (.tup [.agg (dgs q), .s (.v (.bool true))])) :=
        ⟨fun h => rless_0 V m (V - m) (by omega) (by omega) (by omega) (by omega), fun h => ⟨V + 2 ^ 512 - m, rless_1 V m _ (by omega) (by omega) (by omega) (by omega)⟩⟩
      have hcase : (v' = 0 ∧ b = 0 ∧ u = 0) ∨ (v' = 0 ∧ b = 1 ∧ u ≠ 0) ∨ (v' ≠ 0 ∧ u ≠ 0) := by omega
      obtain ⟨z, hz⟩ : ∃ z, wd8 (r + r) 0 = z := ⟨_, rfl⟩
      obtain ⟨y, hy⟩ : ∃ y, wd8 (o + o) 0 = y := ⟨_, rfl⟩
      rw [hz] at hi1 he1
      rw [hy] at hi2 he2
      clear hm huv hrm hVl hb hV hr ho hv' hd8 hu hgk hg hg0
      obtain ⟨hd1, hd2⟩ := hdb
      rcases hcase with ⟨hA, hB, hC⟩ | hcase
      · -- nothing has come yet
        obtain ⟨hr0, ho0⟩ := hv0 hA
        have hvb : (v' != 0) = false := by simp [hA]
        have hub : (u != 0) = false := by simp [hC]
        have hbb : (b == 1) = false := by simp [hB]
        rw [hvb]
        clear hL hd1 hd2 hi1 hi2 he1 he2 hP hO hv0 hb1 hlt
        (repeat (refine X_of _ ?_; simp -implicitDefEqProofs (maxSteps := 1000000) (disch := first | exact dzSKR | fail) only [vcR, vcT, simprocAttr, Ab.part, implies_true, forall_const, tmodL, tdivL, true_or, vcXL17, Tryz.f43, List.toList_toArray, hx, hbit, hbb]))
        refine ⟨k, by omega, ?_⟩
        simp -implicitDefEqProofs (maxSteps := 1000000) (disch := first | exact dzSKR | fail) only [vcR, vcT, simprocAttr, Ab.part, implies_true, forall_const, tmodL, tdivL, true_or, vcXL17, Tryz.f43, List.toList_toArray, again_eq]
        rw [← hgu, hub, hC, hr0, ho0, Nat.zero_mod, Nat.zero_div]
        simp
      · have hub : (u != 0) = true := by simp; omega
        have hne : ∃ fl : Bool, (v' != 0) = fl ∧ (fl = true ∨ (fl = false ∧ (b == 1) = true)) := by
          rcases hcase with ⟨h1, h2, _⟩ | ⟨h1, _⟩
          · exact ⟨false, by simp [h1], .inr ⟨rfl, by simp [h2]⟩⟩
          · exact ⟨true, by simp [h1], .inl rfl⟩
        obtain ⟨fl, hfl, hfl2⟩ := hne
        rw [hfl]
        clear hcase hv0 hfl hb1
        by_cases hmV : m ≤ V
        · have hL1 := hL.1 hmV
          rw [if_pos hmV] at hd1 hd2
          have hoo : o + o + 1 = 2 * o + 1 := by omega
          rw [hoo, ← hd2] at hi2
          rw [← hd1] at hL1
          clear hL hmV hd1 hd2 hoo
          rcases hfl2 with rfl | ⟨rfl, hb1⟩
          · (repeat (refine X_of _ ?_; simp -implicitDefEqProofs (maxSteps := 1000000) (disch := first | exact dzSKR | fail) only [vcR, vcT, simprocAttr, Ab.part, implies_true, forall_const, tmodL, tdivL, true_or, vcXL17, Tryz.f43, List.toList_toArray, hx, hbit]))
            (apply xcall_pure; kernel_rfl; exact PureC.cal (hP); try simp -implicitDefEqProofs (maxSteps := 1000000) (disch := first | exact dzSKR | fail) only [vcR, vcT, simprocAttr, Ab.part, implies_true, forall_const, tmodL, tdivL, true_or, vcXL17, Tryz.f43, List.toList_toArray])
            (repeat (refine X_of _ ?_; simp -implicitDefEqProofs (maxSteps := 1000000) (disch := first | exact dzSKR | fail) only [vcR, vcT, simprocAttr, Ab.part, implies_true, forall_const, tmodL, tdivL, true_or, vcXL17, Tryz.f43, List.toList_toArray]))
            (apply xcall_pure; kernel_rfl; exact PureC.cal (hO); try simp -implicitDefEqProofs (maxSteps := 1000000) (disch := first | exact dzSKR | fail) only [vcR, vcT, simprocAttr, Ab.part, implies_true, forall_const, tmodL, tdivL, true_or, vcXL17, Tryz.f43, List.toList_toArray])
            (repeat (refine X_of _ ?_; simp -implicitDefEqProofs (maxSteps := 1000000) (disch := first | exact dzSKR | fail) only [vcR, vcT, simprocAttr, Ab.part, implies_true, forall_const, tmodL, tdivL, true_or, vcXL17, Tryz.f43, List.toList_toArray, hz, wi64, hi1]))
            (apply xcall_pure; kernel_rfl; exact PureC.cal (hL1); try simp -implicitDefEqProofs (maxSteps := 1000000) (disch := first | exact dzSKR | fail) only [vcR, vcT, simprocAttr, Ab.part, implies_true, forall_const, tmodL, tdivL, true_or, vcXL17, Tryz.f43, List.toList_toArray])
            (repeat (refine X_of _ ?_; simp -implicitDefEqProofs (maxSteps := 1000000) (disch := first | exact dzSKR | fail) only [vcR, vcT, simprocAttr, Ab.part, implies_true, forall_const, tmodL, tdivL, true_or, vcXL17, Tryz.f43, List.toList_toArray, hy, wi64, hi2]))
            refine ⟨k, by omega, ?_⟩
            simp -implicitDefEqProofs (maxSteps := 1000000) (disch := first | exact dzSKR | fail) only [vcR, vcT, simprocAttr, Ab.part, implies_true, forall_const, tmodL, tdivL, true_or, vcXL17, Tryz.f43, List.toList_toArray, again_eq]
            rw [← hgu, hub]
            simp
          · (repeat (refine X_of _ ?_; simp -implicitDefEqProofs (maxSteps := 1000000) (disch := first | exact dzSKR | fail) only [vcR, vcT, simprocAttr, Ab.part, implies_true, forall_const, tmodL, tdivL, true_or, vcXL17, Tryz.f43, List.toList_toArray, hx, hbit, hb1]))
            (apply xcall_pure; kernel_rfl; exact PureC.cal (hP); try simp -implicitDefEqProofs (maxSteps := 1000000) (disch := first | exact dzSKR | fail) only [vcR, vcT, simprocAttr, Ab.part, implies_true, forall_const, tmodL, tdivL, true_or, vcXL17, Tryz.f43, List.toList_toArray])
            (repeat (refine X_of _ ?_; simp -implicitDefEqProofs (maxSteps := 1000000) (disch := first | exact dzSKR | fail) only [vcR, vcT, simprocAttr, Ab.part, implies_true, forall_const, tmodL, tdivL, true_or, vcXL17, Tryz.f43, List.toList_toArray]))
            (apply xcall_pure; kernel_rfl; exact PureC.cal (hO); try simp -implicitDefEqProofs (maxSteps := 1000000) (disch := first | exact dzSKR | fail) only [vcR, vcT, simprocAttr, Ab.part, implies_true, forall_const, tmodL, tdivL, true_or, vcXL17, Tryz.f43, List.toList_toArray])
            (repeat (refine X_of _ ?_; simp -implicitDefEqProofs (maxSteps := 1000000) (disch := first | exact dzSKR | fail) only [vcR, vcT, simprocAttr, Ab.part, implies_true, forall_const, tmodL, tdivL, true_or, vcXL17, Tryz.f43, List.toList_toArray, hz, wi64, hi1]))
            (apply xcall_pure; kernel_rfl; exact PureC.cal (hL1); try simp -implicitDefEqProofs (maxSteps := 1000000) (disch := first | exact dzSKR | fail) only [vcR, vcT, simprocAttr, Ab.part, implies_true, forall_const, tmodL, tdivL, true_or, vcXL17, Tryz.f43, List.toList_toArray])
            (repeat (refine X_of _ ?_; simp -implicitDefEqProofs (maxSteps := 1000000) (disch := first | exact dzSKR | fail) only [vcR, vcT, simprocAttr, Ab.part, implies_true, forall_const, tmodL, tdivL, true_or, vcXL17, Tryz.f43, List.toList_toArray, hy, wi64, hi2]))
            refine ⟨k, by omega, ?_⟩
            simp -implicitDefEqProofs (maxSteps := 1000000) (disch := first | exact dzSKR | fail) only [vcR, vcT, simprocAttr, Ab.part, implies_true, forall_const, tmodL, tdivL, true_or, vcXL17, Tryz.f43, List.toList_toArray, again_eq]
            rw [← hgu, hub]
            simp
        · obtain ⟨q, hL1⟩ := hL.2 (by omega)
          rw [if_neg hmV] at hd1 hd2
          have hoo : o + o = 2 * o + 0 := by omega
          rw [hoo, ← hd2] at hO
          rw [← hd1] at hi1
          rw [← hd1] at hL1
          clear hL hmV hd1 hd2 hoo hi2
          rcases hfl2 with rfl | ⟨rfl, hb1⟩
          · (repeat (refine X_of _ ?_; simp -implicitDefEqProofs (maxSteps := 1000000) (disch := first | exact dzSKR | fail) only [vcR, vcT, simprocAttr, Ab.part, implies_true, forall_const, tmodL, tdivL, true_or, vcXL17, Tryz.f43, List.toList_toArray, hx, hbit]))
            (apply xcall_pure; kernel_rfl; exact PureC.cal (hP); try simp -implicitDefEqProofs (maxSteps := 1000000) (disch := first | exact dzSKR | fail) only [vcR, vcT, simprocAttr, Ab.part, implies_true, forall_const, tmodL, tdivL, true_or, vcXL17, Tryz.f43, List.toList_toArray])
            (repeat (refine X_of _ ?_; simp -implicitDefEqProofs (maxSteps := 1000000) (disch := first | exact dzSKR | fail) only [vcR, vcT, simprocAttr, Ab.part, implies_true, forall_const, tmodL, tdivL, true_or, vcXL17, Tryz.f43, List.toList_toArray]))
            (apply xcall_pure; kernel_rfl; exact PureC.cal (hO); try simp -implicitDefEqProofs (maxSteps := 1000000) (disch := first | exact dzSKR | fail) only [vcR, vcT, simprocAttr, Ab.part, implies_true, forall_const, tmodL, tdivL, true_or, vcXL17, Tryz.f43, List.toList_toArray])
            (repeat (refine X_of _ ?_; simp -implicitDefEqProofs (maxSteps := 1000000) (disch := first | exact dzSKR | fail) only [vcR, vcT, simprocAttr, Ab.part, implies_true, forall_const, tmodL, tdivL, true_or, vcXL17, Tryz.f43, List.toList_toArray, hz, wi64, hi1]))
            (apply xcall_pure; kernel_rfl; exact PureC.cal (hL1); try simp -implicitDefEqProofs (maxSteps := 1000000) (disch := first | exact dzSKR | fail) only [vcR, vcT, simprocAttr, Ab.part, implies_true, forall_const, tmodL, tdivL, true_or, vcXL17, Tryz.f43, List.toList_toArray])
            (repeat (refine X_of _ ?_; simp -implicitDefEqProofs (maxSteps := 1000000) (disch := first | exact dzSKR | fail) only [vcR, vcT, simprocAttr, Ab.part, implies_true, forall_const, tmodL, tdivL, true_or, vcXL17, Tryz.f43, List.toList_toArray]))
            refine ⟨k, by omega, ?_⟩
            simp -implicitDefEqProofs (maxSteps := 1000000) (disch := first | exact dzSKR | fail) only [vcR, vcT, simprocAttr, Ab.part, implies_true, forall_const, tmodL, tdivL, true_or, vcXL17, Tryz.f43, List.toList_toArray, again_eq]
            rw [← hgu, hub]
            simp
          · (repeat (refine X_of _ ?_; simp -implicitDefEqProofs (maxSteps := 1000000) (disch := first | exact dzSKR | fail) only [vcR, vcT, simprocAttr, Ab.part, implies_true, forall_const, tmodL, tdivL, true_or, vcXL17, Tryz.f43, List.toList_toArray, hx, hbit, hb1]))
            (apply xcall_pure; kernel_rfl; exact PureC.cal (hP); try simp -implicitDefEqProofs (maxSteps := 1000000) (disch := first | exact dzSKR | fail) only [vcR, vcT, simprocAttr, Ab.part, implies_true, forall_const, tmodL, tdivL, true_or, vcXL17, Tryz.f43, List.toList_toArray])
            (repeat (refine X_of _ ?_; simp -implicitDefEqProofs (maxSteps := 1000000) (disch := first | exact dzSKR | fail) only [vcR, vcT, simprocAttr, Ab.part, implies_true, forall_const, tmodL, tdivL, true_or, vcXL17, Tryz.f43, List.toList_toArray]))
            (apply xcall_pure; kernel_rfl; exact PureC.cal (hO); try simp -implicitDefEqProofs (maxSteps := 1000000) (disch := first | exact dzSKR | fail) only [vcR, vcT, simprocAttr, Ab.part, implies_true, forall_const, tmodL, tdivL, true_or, vcXL17, Tryz.f43, List.toList_toArray])
            (repeat (refine X_of _ ?_; simp -implicitDefEqProofs (maxSteps := 1000000) (disch := first | exact dzSKR | fail) only [vcR, vcT, simprocAttr, Ab.part, implies_true, forall_const, tmodL, tdivL, true_or, vcXL17, Tryz.f43, List.toList_toArray, hz, wi64, hi1]))
            (apply xcall_pure; kernel_rfl; exact PureC.cal (hL1); try simp -implicitDefEqProofs (maxSteps := 1000000) (disch := first | exact dzSKR | fail) only [vcR, vcT, simprocAttr, Ab.part, implies_true, forall_const, tmodL, tdivL, true_or, vcXL17, Tryz.f43, List.toList_toArray])
            (repeat (refine X_of _ ?_; simp -implicitDefEqProofs (maxSteps := 1000000) (disch := first | exact dzSKR | fail) only [vcR, vcT, simprocAttr, Ab.part, implies_true, forall_const, tmodL, tdivL, true_or, vcXL17, Tryz.f43, List.toList_toArray]))
            refine ⟨k, by omega, ?_⟩
            simp -implicitDefEqProofs (maxSteps := 1000000) (disch := first | exact dzSKR | fail) only [vcR, vcT, simprocAttr, Ab.part, implies_true, forall_const, tmodL, tdivL, true_or, vcXL17, Tryz.f43, List.toList_toArray, again_eq]
            rw [← hgu, hub]
            simp
end Go.Proofs.YtdmcknmjdlghgaaGreatDoor
namespace Go.Proofs.YtdmcknmjdlghgaaGreatDoor
open Go Go.Ab
set_option linter.unusedSimpArgs false
set_option linter.unusedVariables false
set_option linter.defProp false
def vcXL18 := (And.intro (And.intro (And.intro (And.intro (And.intro @dgs_length @dgs_one) (And.intro @dgs_get @qm_call)) (And.intro (And.intro @qm_move @qm_assign) (And.intro @qm_pick (And.intro @qm_build @qm_load)))) (And.intro (And.intro (And.intro @qm_nilCheck @qm_binOp) (And.intro @qm_unOp @qm_convert)) (And.intro (And.intro @qm_fieldAddr @qm_field) (And.intro @qm_indexAddr (And.intro @qm_index @qm_extract))))) (And.intro (And.intro (And.intro (And.intro @qm_makeFunc @xcalledM_first) (And.intro @xcalledM_cap @maskOK_p)) (And.intro (And.intro @maskOK_v @xcallHM_value) (And.intro @xcallHM_len (And.intro @xcalledM_some @xTrM_nil)))) (And.intro (And.intro (And.intro @xTrM_false @xTrM_cons) (And.intro @xAtM_assign @xAtM_move)) (And.intro (And.intro @xAtM_extract @xAtM_alloc) (And.intro @xAtM_store (And.intro @famL_nil @famL_cons))))))
def vcOL18 := (And.intro (And.intro (And.intro @okv_p (And.intro @okv_sl @oks_s)) (And.intro @oks_agg (And.intro @oks_tup @oka_s))) (And.intro (And.intro @oka_agg (And.intro @okv_v @nat4_okk)) (And.intro (And.intro @nat8_okk @arr_okk) (And.intro @iarr_okk @dgs_okk))))
set_option maxHeartbeats 20000000
set_option maxRecDepth 100000
theorem rdiv_c (a m : Nat) (ha : a < 2 ^ 256) (hm : m < 2 ^ 256) (h0 : 0 < m) : PureC Tryz.prog 22 [.agg (nat4 a), .agg (nat4 m)] (.tup [.agg (nat4 (a / m)), .agg (nat4 (a % m)), .s (.v (.int .i64 0))]) := by
  refine pureC_of Tryz.func22 rfl (by simp only [List.length_cons, List.length_nil, List.map_cons, List.map_nil, List.nodup_cons, List.nodup_nil, List.mem_cons, Nat.reduceAdd, Nat.reduceEqDiff, or_false, not_false_eq_true, forall_eq_or_imp, forall_eq, or_self, Nat.reduceLT, Nat.reduceLeDiff, and_self, List.forall_mem_cons, List.not_mem_nil, false_implies, implies_true, and_true, true_and, vcOL18]) (by simp only [List.length_cons, List.length_nil, List.map_cons, List.map_nil, List.nodup_cons, List.nodup_nil, List.mem_cons, Nat.reduceAdd, Nat.reduceEqDiff, or_false, not_false_eq_true, forall_eq_or_imp, forall_eq, or_self, Nat.reduceLT, Nat.reduceLeDiff, and_self, List.forall_mem_cons, List.not_mem_nil, false_implies, implies_true, and_true, true_and, vcOL18]) fun w => ?_
  simp only [List.length_cons, List.length_nil, Tryz.ntmps22, Nat.reduceAdd, Nat.reduceSub, List.replicate_succ, List.replicate_zero, List.cons_append, List.nil_append]
  have h1 := rnat_c a ha
  have h2 := rnat_c m hm
  have h3 := rrest_c a m (by omega) hm h0
  have h4 := rlow_c (a / m)
  have h5 := rlow_c (a % m)
  have hne : litsEq (lits 4 (wd m)) (lits 4 (wd 0)) = false := by
    rw [litsEq_nat4 hm (by decide)]; simp; omega
  obtain ⟨r, hr⟩ : ∃ r, a % m = r := ⟨_, rfl⟩
  obtain ⟨q, hq⟩ : ∃ q, a / m = q := ⟨_, rfl⟩
  rw [hr, hq] at h3
  rw [hq] at h4
  rw [hr] at h5
  rw [hr, hq]
  clear hr hq ha hm h0
  (repeat (refine X_of _ ?_; simp -implicitDefEqProofs (maxSteps := 1000000) (disch := first | exact dzSKR | fail) only [vcR, vcT, simprocAttr, Ab.part, implies_true, forall_const, tmodL, tdivL, true_or, vcXL18, Tryz.f22, List.toList_toArray, arr4_zero, hne]))
  (refine X_drawM 8 [] (.cons 8 (.cons 9 (.cons 10 (.cons 11 .nil .nil) .nil) .nil) (.cons 9 (.cons 8 (.cons 10 (.cons 11 .nil .nil) .nil) .nil) .nil)) (by kernel_rfl) (by kernel_rfl) ?_; simp only [List.take_succ_cons, List.take_zero])
  (repeat ((first | with_reducible refine XM_cons ?_ | with_reducible refine XM_consG ?_ | with_reducible refine XM_nil ?_); try simp -implicitDefEqProofs (maxSteps := 1000000) (disch := first | exact dzSKR | fail) only [vcR, vcT, simprocAttr, Ab.part, implies_true, forall_const, tmodL, tdivL, true_or, vcXL18, Tryz.f22, List.toList_toArray]))
  (apply xcallM_pure; kernel_rfl; exact (h1); try simp -implicitDefEqProofs (maxSteps := 1000000) (disch := first | exact dzSKR | fail) only [vcR, vcT, simprocAttr, Ab.part, implies_true, forall_const, tmodL, tdivL, true_or, vcXL18, Tryz.f22, List.toList_toArray])
  (repeat ((first | with_reducible refine XM_cons ?_ | with_reducible refine XM_consG ?_ | with_reducible refine XM_nil ?_); try simp -implicitDefEqProofs (maxSteps := 1000000) (disch := first | exact dzSKR | fail) only [vcR, vcT, simprocAttr, Ab.part, implies_true, forall_const, tmodL, tdivL, true_or, vcXL18, Tryz.f22, List.toList_toArray]))
  (apply xcallM_pure; kernel_rfl; exact (h2); try simp -implicitDefEqProofs (maxSteps := 1000000) (disch := first | exact dzSKR | fail) only [vcR, vcT, simprocAttr, Ab.part, implies_true, forall_const, tmodL, tdivL, true_or, vcXL18, Tryz.f22, List.toList_toArray])
  (repeat ((first | with_reducible refine XM_cons ?_ | with_reducible refine XM_consG ?_ | with_reducible refine XM_nil ?_); try simp -implicitDefEqProofs (maxSteps := 1000000) (disch := first | exact dzSKR | fail) only [vcR, vcT, simprocAttr, Ab.part, implies_true, forall_const, tmodL, tdivL, true_or, vcXL18, Tryz.f22, List.toList_toArray]))
  (apply xcallM_pure; kernel_rfl; exact (h3); try simp -implicitDefEqProofs (maxSteps := 1000000) (disch := first | exact dzSKR | fail) only [vcR, vcT, simprocAttr, Ab.part, implies_true, forall_const, tmodL, tdivL, true_or, vcXL18, Tryz.f22, List.toList_toArray])
  (repeat ((first | with_reducible refine XM_cons ?_ | with_reducible refine XM_consG ?_ | with_reducible refine XM_nil ?_); try simp -implicitDefEqProofs (maxSteps := 1000000) (disch := first | exact dzSKR | fail) only [vcR, vcT, simprocAttr, Ab.part, implies_true, forall_const, tmodL, tdivL, true_or, vcXL18, Tryz.f22, List.toList_toArray]))
  refine ⟨?_, ?_⟩
  · (repeat (refine X_of _ ?_; simp -implicitDefEqProofs (maxSteps := 1000000) (disch := first | exact dzSKR | fail) only [vcR, vcT, simprocAttr, Ab.part, implies_true, forall_const, tmodL, tdivL, true_or, vcXL18, Tryz.f22, List.toList_toArray]))
    (refine X_drawM 4 [2,3] (.cons 4 (.cons 5 (.cons 6 .nil .nil) .nil) .nil) (by kernel_rfl) (by kernel_rfl) ?_; simp only [List.take_succ_cons, List.take_zero])
    (repeat ((first | with_reducible refine XM_cons ?_ | with_reducible refine XM_consG ?_ | with_reducible refine XM_nil ?_); try simp -implicitDefEqProofs (maxSteps := 1000000) (disch := first | exact dzSKR | fail) only [vcR, vcT, simprocAttr, Ab.part, implies_true, forall_const, tmodL, tdivL, true_or, vcXL18, Tryz.f22, List.toList_toArray]))
    (apply xcallM_pure; kernel_rfl; exact (h4); try simp -implicitDefEqProofs (maxSteps := 1000000) (disch := first | exact dzSKR | fail) only [vcR, vcT, simprocAttr, Ab.part, implies_true, forall_const, tmodL, tdivL, true_or, vcXL18, Tryz.f22, List.toList_toArray])
    (repeat ((first | with_reducible refine XM_cons ?_ | with_reducible refine XM_consG ?_ | with_reducible refine XM_nil ?_); try simp -implicitDefEqProofs (maxSteps := 1000000) (disch := first | exact dzSKR | fail) only [vcR, vcT, simprocAttr, Ab.part, implies_true, forall_const, tmodL, tdivL, true_or, vcXL18, Tryz.f22, List.toList_toArray]))
    (apply xcallM_pure; kernel_rfl; exact (h5); try simp -implicitDefEqProofs (maxSteps := 1000000) (disch := first | exact dzSKR | fail) only [vcR, vcT, simprocAttr, Ab.part, implies_true, forall_const, tmodL, tdivL, true_or, vcXL18, Tryz.f22, List.toList_toArray])
    (repeat ((first | with_reducible refine XM_cons ?_ | with_reducible refine XM_consG ?_ | with_reducible refine XM_nil ?_); try simp -implicitDefEqProofs (maxSteps := 1000000) (disch := first | exact dzSKR | fail) only [vcR, vcT, simprocAttr, Ab.part, implies_true, forall_const, tmodL, tdivL, true_or, vcXL18, Tryz.f22, List.toList_toArray]))
    (repeat (refine X_of _ ?_; simp -implicitDefEqProofs (maxSteps := 1000000) (disch := first | exact dzSKR | fail) only [vcR, vcT, simprocAttr, Ab.part, implies_true, forall_const, tmodL, tdivL, true_or, vcXL18, Tryz.f22, List.toList_toArray]))
  · (repeat (refine X_of _ ?_; simp -implicitDefEqProofs (maxSteps := 1000000) (disch := first | exact dzSKR | fail) only [vcR, vcT, simprocAttr, Ab.part, implies_true, forall_const, tmodL, tdivL, true_or, vcXL18, Tryz.f22, List.toList_toArray]))
    (refine X_drawM 4 [2,3] (.cons 4 (.cons 5 (.cons 6 .nil .nil) .nil) .nil) (by kernel_rfl) (by kernel_rfl) ?_; simp only [List.take_succ_cons, List.take_zero])
    (repeat ((first | with_reducible refine XM_cons ?_ | with_reducible refine XM_consG ?_ | with_reducible refine XM_nil ?_); try simp -implicitDefEqProofs (maxSteps := 1000000) (disch := first | exact dzSKR | fail) only [vcR, vcT, simprocAttr, Ab.part, implies_true, forall_const, tmodL, tdivL, true_or, vcXL18, Tryz.f22, List.toList_toArray]))
    (apply xcallM_pure; kernel_rfl; exact (h4); try simp -implicitDefEqProofs (maxSteps := 1000000) (disch := first | exact dzSKR | fail) only [vcR, vcT, simprocAttr, Ab.part, implies_true, forall_const, tmodL, tdivL, true_or, vcXL18, Tryz.f22, List.toList_toArray])
    (repeat ((first | with_reducible refine XM_cons ?_ | with_reducible refine XM_consG ?_ | with_reducible refine XM_nil ?_); try simp -implicitDefEqProofs (maxSteps := 1000000) (disch := first | exact dzSKR | fail) only [vcR, vcT, simprocAttr, Ab.part, implies_true, forall_const, tmodL, tdivL, true_or, vcXL18, Tryz.f22, List.toList_toArray]))
    (apply xcallM_pure; kernel_rfl; exact (h5); try simp -implicitDefEqProofs (maxSteps := 1000000) (disch := first | exact dzSKR | fail) only [vcR, vcT, simprocAttr, Ab.part, implies_true, forall_const, tmodL, tdivL, true_or, vcXL18, Tryz.f22, List.toList_toArray])
    (repeat ((first | with_reducible refine XM_cons ?_ | with_reducible refine XM_consG ?_ | with_reducible refine XM_nil ?_); try simp -implicitDefEqProofs (maxSteps := 1000000) (disch := first | exact dzSKR | fail) only [vcR, vcT, simprocAttr, Ab.part, implies_true, forall_const, tmodL, tdivL, true_or, vcXL18, Tryz.f22, List.toList_toArray]))
    (repeat (refine X_of _ ?_; simp -implicitDefEqProofs (maxSteps := 1000000) (disch := first | exact dzSKR | fail) only [vcR, vcT, simprocAttr, Ab.part, implies_true, forall_const, tmodL, tdivL, true_or, vcXL18, Tryz.f22, List.toList_toArray]))
end Go.Proofs.YtdmcknmjdlghgaaGreatDoor
