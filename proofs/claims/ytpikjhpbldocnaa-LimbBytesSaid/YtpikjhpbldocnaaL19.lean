import Derived.Test.YtpikjhpbldocnaaL12
import Derived.Test.YtpikjhpbldocnaaNm8
namespace Go.Proofs.Ytpikjhpbldocnaa
open Go Go.Ab
set_option linter.unusedSimpArgs false
set_option linter.unusedVariables false
set_option maxHeartbeats 20000000
set_option maxRecDepth 100000

theorem z_u8 (n : Nat) (hn : n ≤ 16777216) : slice0 Try.prog 5 n = some (barr n fun _ => 0) := slice0_of (by kernel_rfl) (by kernel_rfl) n hn
theorem mk_u8 (n : Nat) (hn : n ≤ 16777216) : mkOK Try.prog 5 n = True := by
  have h1 : (Try.prog.info? 5).map (·.bytes) = some 1 := by kernel_rfl
  unfold mkOK
  cases hi : Try.prog.info? 5 with
  | none => rw [hi] at h1; cases h1
  | some i =>
    rw [hi] at h1
    simp only [Option.map_some, Option.some.injEq] at h1
    simp only [h1, eq_iff_iff, iff_true]
    omega
theorem slc_u8 : slcOf Try.prog 45 = some 5 := by kernel_rfl


theorem bytes_c (a : Nat) : NewC Try.prog 26 [.agg (nat4 a)] (fun v H => v = .s (.sl 0 0 32 32) ∧ H = [⟨5, barr 32 fun i => wd8 a (31 - i)⟩]) := by
  refine newC_of Try.func26 rfl (by simp only [List.length_cons, List.length_nil, List.map_cons, List.map_nil, List.nodup_cons, List.nodup_nil, List.mem_cons, Nat.reduceAdd, Nat.reduceEqDiff, or_false, not_false_eq_true, forall_eq_or_imp, forall_eq, or_self, okv_p, okv_sl, Nat.reduceLT, Nat.reduceLeDiff, and_self, List.forall_mem_cons, List.not_mem_nil, false_implies, implies_true, and_true, true_and, oks_s, oks_agg, oks_tup, oka_s, oka_agg, okv_v, nat4_okk, nat8_okk, arr_okk, iarr_okk, dgs_okk, barr_okk]) fun w => ?_
  simp only [List.length_cons, List.length_nil, Try.ntmps26, Nat.reduceAdd, Nat.reduceSub, List.replicate_succ, List.replicate_zero, List.cons_append, List.nil_append]
  have hz := z_u8 32 (by decide)
  have hm := mk_u8 32 (by decide)
  (refine X_of _ ?_; simp -implicitDefEqProofs (maxSteps := 1000000) (disch := first | (simp only [nat4_length, nat8_length, arr_length, iarr_length, dgs_length, barr_length, List.length_cons, List.length_nil, Nat.reduceAdd]; done) | omega) only [vcR, vcT, Int.reduceBEq, Int.reduceBNe, Int.reduceEq, Int.reduceNe, Ab.part, Nat.reduceAdd, Nat.reduceMul, Nat.reduceLeDiff, Nat.reduceEqDiff, Nat.reduceBEq, Nat.reduceBNe, reduceCtorEq, ↓reduceIte, implies_true, forall_const, Int.reduceNeg, Int.reduceToNat, Int.reduceLT, Int.reduceLE, Int.reduceAdd, Int.reduceSub, Int.reduceMul, Int.reducePow, Nat.reducePow, dgs_length, dgs_one, dgs_get, tmodL, tdivL, barr_length, barr_get, barr_set, barr_one, HE.app, Try.f26, List.toList_toArray])
  (try (first | with_reducible refine X_regRS ?_ | with_reducible refine X_regR ?_)); (repeat ((first | with_reducible refine XR_make ?_ | with_reducible refine XR_append ?_ | with_reducible refine XR_cons ?_ | with_reducible refine XR_consG ?_ | with_reducible refine XR_nil ?_); try simp -implicitDefEqProofs (maxSteps := 1000000) (disch := first | (simp only [nat4_length, nat8_length, arr_length, iarr_length, dgs_length, barr_length, List.length_cons, List.length_nil, Nat.reduceAdd]; done) | omega) only [vcR, vcT, Int.reduceBEq, Int.reduceBNe, Int.reduceEq, Int.reduceNe, Ab.part, Nat.reduceAdd, Nat.reduceMul, Nat.reduceLeDiff, Nat.reduceEqDiff, Nat.reduceBEq, Nat.reduceBNe, reduceCtorEq, ↓reduceIte, implies_true, forall_const, Int.reduceNeg, Int.reduceToNat, Int.reduceLT, Int.reduceLE, Int.reduceAdd, Int.reduceSub, Int.reduceMul, Int.reducePow, Nat.reducePow, dgs_length, dgs_one, dgs_get, tmodL, tdivL, barr_length, barr_get, barr_set, barr_one, HE.app, Try.f26, List.toList_toArray, xmake,slc_u8,hz,hm]))
  (repeat (refine X_of _ ?_; simp -implicitDefEqProofs (maxSteps := 1000000) (disch := first | (simp only [nat4_length, nat8_length, arr_length, iarr_length, dgs_length, barr_length, List.length_cons, List.length_nil, Nat.reduceAdd]; done) | omega) only [vcR, vcT, Int.reduceBEq, Int.reduceBNe, Int.reduceEq, Int.reduceNe, Ab.part, Nat.reduceAdd, Nat.reduceMul, Nat.reduceLeDiff, Nat.reduceEqDiff, Nat.reduceBEq, Nat.reduceBNe, reduceCtorEq, ↓reduceIte, implies_true, forall_const, Int.reduceNeg, Int.reduceToNat, Int.reduceLT, Int.reduceLE, Int.reduceAdd, Int.reduceSub, Int.reduceMul, Int.reducePow, Nat.reducePow, dgs_length, dgs_one, dgs_get, tmodL, tdivL, barr_length, barr_get, barr_set, barr_one, HE.app, Try.f26, List.toList_toArray]))
  refine X_loop (ι := Nat) (fun k => k ≤ 32) (fun k => 32 - k) [4, 5, 9, 10, 11, 12, 13, 14, 15, 16, 17, 18, 19, 20, 21, 22, 23, 24, 25, 26, 27, 28, 29]
    (fun k => [(9, .s (.v (.int .i64 (k : Nat))))])
    (fun k => [(1, barr 32 fun i => if 31 - i < k then wd8 a (31 - i) else 0)]) 0 (shape_of fun i => ?_) (by decide) ?_ ?_
  · simp only [List.length_cons, List.length_nil, List.map_cons, List.map_nil, List.nodup_cons, List.nodup_nil, List.mem_cons, Nat.reduceAdd, Nat.reduceEqDiff, or_false, not_false_eq_true, forall_eq_or_imp, forall_eq, or_self, okv_p, okv_sl, Nat.reduceLT, Nat.reduceLeDiff, and_self, List.forall_mem_cons, List.not_mem_nil, false_implies, implies_true, and_true, true_and, oks_s, oks_agg, oks_tup, oka_s, oka_agg, okv_v, nat4_okk, nat8_okk, arr_okk, iarr_okk, dgs_okk, barr_okk]
  · simp -implicitDefEqProofs (maxSteps := 1000000) (disch := first | (simp only [nat4_length, nat8_length, arr_length, iarr_length, dgs_length, barr_length, List.length_cons, List.length_nil, Nat.reduceAdd]; done) | omega) only [vcR, vcT, Int.reduceBEq, Int.reduceBNe, Int.reduceEq, Int.reduceNe, Ab.part, Nat.reduceAdd, Nat.reduceMul, Nat.reduceLeDiff, Nat.reduceEqDiff, Nat.reduceBEq, Nat.reduceBNe, reduceCtorEq, ↓reduceIte, implies_true, forall_const, Int.reduceNeg, Int.reduceToNat, Int.reduceLT, Int.reduceLE, Int.reduceAdd, Int.reduceSub, Int.reduceMul, Int.reducePow, Nat.reducePow, dgs_length, dgs_one, dgs_get, tmodL, tdivL, barr_length, barr_get, barr_set, barr_one, HE.app, Try.f26, List.toList_toArray, again_eq]
    simp
  · intro k us hk
    (repeat (refine X_of _ ?_; simp -implicitDefEqProofs (maxSteps := 1000000) (disch := first | (simp only [nat4_length, nat8_length, arr_length, iarr_length, dgs_length, barr_length, List.length_cons, List.length_nil, Nat.reduceAdd]; done) | omega) only [vcR, vcT, Int.reduceBEq, Int.reduceBNe, Int.reduceEq, Int.reduceNe, Ab.part, Nat.reduceAdd, Nat.reduceMul, Nat.reduceLeDiff, Nat.reduceEqDiff, Nat.reduceBEq, Nat.reduceBNe, reduceCtorEq, ↓reduceIte, implies_true, forall_const, Int.reduceNeg, Int.reduceToNat, Int.reduceLT, Int.reduceLE, Int.reduceAdd, Int.reduceSub, Int.reduceMul, Int.reducePow, Nat.reducePow, dgs_length, dgs_one, dgs_get, tmodL, tdivL, barr_length, barr_get, barr_set, barr_one, HE.app, Try.f26, List.toList_toArray]))
    refine ⟨fun h => ?_, fun h => ?_⟩
    · have hd := wd_digit a k
      have hd8 := wd8_lt a k
      have hw := wd_lt a (k / 8)
      have hs : wd a (k / 8) / 2 ^ (8 * (k % 8)) < 18446744073709551616 := Nat.lt_of_le_of_lt (Nat.div_le_self _ _) hw
      (repeat (refine X_of _ ?_; simp -implicitDefEqProofs (maxSteps := 1000000) (disch := first | (simp only [nat4_length, nat8_length, arr_length, iarr_length, dgs_length, barr_length, List.length_cons, List.length_nil, Nat.reduceAdd]; done) | omega) only [vcR, vcT, Int.reduceBEq, Int.reduceBNe, Int.reduceEq, Int.reduceNe, Ab.part, Nat.reduceAdd, Nat.reduceMul, Nat.reduceLeDiff, Nat.reduceEqDiff, Nat.reduceBEq, Nat.reduceBNe, reduceCtorEq, ↓reduceIte, implies_true, forall_const, Int.reduceNeg, Int.reduceToNat, Int.reduceLT, Int.reduceLE, Int.reduceAdd, Int.reduceSub, Int.reduceMul, Int.reducePow, Nat.reducePow, dgs_length, dgs_one, dgs_get, tmodL, tdivL, barr_length, barr_get, barr_set, barr_one, HE.app, Try.f26, List.toList_toArray, w8m,hd]))
      refine ⟨k + 1, by omega, ?_⟩
      simp -implicitDefEqProofs (maxSteps := 1000000) (disch := first | (simp only [nat4_length, nat8_length, arr_length, iarr_length, dgs_length, barr_length, List.length_cons, List.length_nil, Nat.reduceAdd]; done) | omega) only [vcR, vcT, Int.reduceBEq, Int.reduceBNe, Int.reduceEq, Int.reduceNe, Ab.part, Nat.reduceAdd, Nat.reduceMul, Nat.reduceLeDiff, Nat.reduceEqDiff, Nat.reduceBEq, Nat.reduceBNe, reduceCtorEq, ↓reduceIte, implies_true, forall_const, Int.reduceNeg, Int.reduceToNat, Int.reduceLT, Int.reduceLE, Int.reduceAdd, Int.reduceSub, Int.reduceMul, Int.reducePow, Nat.reducePow, dgs_length, dgs_one, dgs_get, tmodL, tdivL, barr_length, barr_get, barr_set, barr_one, HE.app, Try.f26, List.toList_toArray, again_eq]
      refine ⟨_, barr_congr fun i hi => ?_, rfl⟩
      by_cases h1 : i = 31 - k
      · rw [if_pos h1, if_pos (by omega), h1, show 31 - (31 - k) = k by omega]
      · rw [if_neg h1]
        by_cases h2 : 31 - i < k
        · rw [if_pos h2, if_pos (by omega)]
        · rw [if_neg h2, if_neg (by omega)]
    · have : k = 32 := by omega
      subst this
      (repeat (refine X_of _ ?_; simp -implicitDefEqProofs (maxSteps := 1000000) (disch := first | (simp only [nat4_length, nat8_length, arr_length, iarr_length, dgs_length, barr_length, List.length_cons, List.length_nil, Nat.reduceAdd]; done) | omega) only [vcR, vcT, Int.reduceBEq, Int.reduceBNe, Int.reduceEq, Int.reduceNe, Ab.part, Nat.reduceAdd, Nat.reduceMul, Nat.reduceLeDiff, Nat.reduceEqDiff, Nat.reduceBEq, Nat.reduceBNe, reduceCtorEq, ↓reduceIte, implies_true, forall_const, Int.reduceNeg, Int.reduceToNat, Int.reduceLT, Int.reduceLE, Int.reduceAdd, Int.reduceSub, Int.reduceMul, Int.reducePow, Nat.reducePow, dgs_length, dgs_one, dgs_get, tmodL, tdivL, barr_length, barr_get, barr_set, barr_one, HE.app, Try.f26, List.toList_toArray]))
      exact ⟨[1], _, _, ⟨rfl, rfl⟩, by decide, rfl, Nat.lt_succ_self 0, ⟨congrArg some (congrArg _ (barr_congr fun i hi => by first | rfl | rw [if_pos (by omega)])), trivial⟩, by simp only [List.mem_singleton, forall_eq]; exact barr_ok 0⟩

theorem add_spot {ad : Addr} (h : ad.spot = none) (i : Nat) : (ad.add i).spot = none := by
  obtain ⟨b, o, s⟩ := ad
  simp only at h
  subst h
  rw [Go.Ab.addr_add]
/-- The bytes of a number, the highest one first, as they lie at an address. -/
def natAt (V n : Nat) (ad : Addr) (w : World) : Prop := bytesAt w ad n fun i => wd8 V (n - 1 - i)
theorem ofTop (V n : Nat) (h : V < 2 ^ (8 * n)) : V / 2 ^ (8 * n) * 2 ^ (8 * n) = 0 := by rw [Nat.div_eq_of_lt h, Nat.zero_mul]
theorem row_u8 : rowOf Try.prog 5 = some false := by kernel_rfl
theorem sz_u8 : Try.prog.cellsOf 5 = 1 := by kernel_rfl


theorem of_c (ad : Addr) (n c V : Nat) (hn : n ≤ 32) (hV : V < 2 ^ (8 * n)) : PureE Try.prog 27 [.slice (some ad) n c] (natAt V n ad) (.tup [.agg (nat4 V), .s (.v (.int .i64 0))]) := by
  refine pureE_of Try.func27 rfl (by simp only [List.length_cons, List.length_nil, List.map_cons, List.map_nil, List.nodup_cons, List.nodup_nil, List.mem_cons, Nat.reduceAdd, Nat.reduceEqDiff, or_false, not_false_eq_true, forall_eq_or_imp, forall_eq, or_self, okv_p, okv_sl, Nat.reduceLT, Nat.reduceLeDiff, and_self, List.forall_mem_cons, List.not_mem_nil, false_implies, implies_true, and_true, true_and, oks_s, oks_agg, oks_tup, oka_s, oka_agg, okv_v, nat4_okk, nat8_okk, arr_okk, iarr_okk, dgs_okk, barr_okk]) fun w hw => ?_
  obtain ⟨hsp, hw⟩ := hw
  have hx : ∀ i, i < n → extCell (ctx0 Try.prog w) (ad.add i) (.int .u8 ((wd8 V (n - 1 - i) : Nat) : Int)) := fun i hi => extCell_of (add_spot hsp i) (hw i hi)
  have htop := ofTop V n hV
  clear hw hsp hV
  simp only [List.map_cons, List.map_nil, List.length_cons, List.length_nil, Try.ntmps27, Nat.reduceAdd, Nat.reduceSub, List.replicate_succ, List.replicate_zero, List.cons_append, List.nil_append]
  (repeat (refine X_of _ ?_; simp -implicitDefEqProofs (maxSteps := 1000000) (disch := first | (simp only [nat4_length, nat8_length, arr_length, iarr_length, dgs_length, barr_length, List.length_cons, List.length_nil, Nat.reduceAdd]; done) | omega) only [vcR, vcT, Int.reduceBEq, Int.reduceBNe, Int.reduceEq, Int.reduceNe, Ab.part, Nat.reduceAdd, Nat.reduceMul, Nat.reduceLeDiff, Nat.reduceEqDiff, Nat.reduceBEq, Nat.reduceBNe, reduceCtorEq, ↓reduceIte, implies_true, forall_const, Int.reduceNeg, Int.reduceToNat, Int.reduceLT, Int.reduceLE, Int.reduceAdd, Int.reduceSub, Int.reduceMul, Int.reducePow, Nat.reducePow, dgs_length, dgs_one, dgs_get, tmodL, tdivL, barr_length, barr_get, barr_set, barr_one, HE.app, Try.f27, List.toList_toArray, arr4_zero]))
  refine X_loop (ι := Nat) (fun k => k ≤ n) (fun k => n - k) [5, 6, 7, 14, 15, 16, 17, 18, 19, 20, 21, 22, 23, 24, 25, 26, 27, 28, 29, 30, 31, 32, 33, 34, 35, 36]
    (fun k => [(14, .s (.v (.int .i64 (k : Nat))))])
    (fun k => [(1, nat4 (V / 2 ^ (8 * (n - k)) * 2 ^ (8 * (n - k))))]) 0 (shape_of fun i => ?_) (by decide) ?_ ?_
  · simp only [List.length_cons, List.length_nil, List.map_cons, List.map_nil, List.nodup_cons, List.nodup_nil, List.mem_cons, Nat.reduceAdd, Nat.reduceEqDiff, or_false, not_false_eq_true, forall_eq_or_imp, forall_eq, or_self, okv_p, okv_sl, Nat.reduceLT, Nat.reduceLeDiff, and_self, List.forall_mem_cons, List.not_mem_nil, false_implies, implies_true, and_true, true_and, oks_s, oks_agg, oks_tup, oka_s, oka_agg, okv_v, nat4_okk, nat8_okk, arr_okk, iarr_okk, dgs_okk, barr_okk]
  · simp -implicitDefEqProofs (maxSteps := 1000000) (disch := first | (simp only [nat4_length, nat8_length, arr_length, iarr_length, dgs_length, barr_length, List.length_cons, List.length_nil, Nat.reduceAdd]; done) | omega) only [vcR, vcT, Int.reduceBEq, Int.reduceBNe, Int.reduceEq, Int.reduceNe, Ab.part, Nat.reduceAdd, Nat.reduceMul, Nat.reduceLeDiff, Nat.reduceEqDiff, Nat.reduceBEq, Nat.reduceBNe, reduceCtorEq, ↓reduceIte, implies_true, forall_const, Int.reduceNeg, Int.reduceToNat, Int.reduceLT, Int.reduceLE, Int.reduceAdd, Int.reduceSub, Int.reduceMul, Int.reducePow, Nat.reducePow, dgs_length, dgs_one, dgs_get, tmodL, tdivL, barr_length, barr_get, barr_set, barr_one, HE.app, Try.f27, List.toList_toArray, again_eq]
    rw [Nat.sub_zero, htop]
    simp
  · clear htop
    intro k us hk
    (repeat (refine X_of _ ?_; simp -implicitDefEqProofs (maxSteps := 1000000) (disch := first | (simp only [nat4_length, nat8_length, arr_length, iarr_length, dgs_length, barr_length, List.length_cons, List.length_nil, Nat.reduceAdd]; done) | omega) only [vcR, vcT, Int.reduceBEq, Int.reduceBNe, Int.reduceEq, Int.reduceNe, Ab.part, Nat.reduceAdd, Nat.reduceMul, Nat.reduceLeDiff, Nat.reduceEqDiff, Nat.reduceBEq, Nat.reduceBNe, reduceCtorEq, ↓reduceIte, implies_true, forall_const, Int.reduceNeg, Int.reduceToNat, Int.reduceLT, Int.reduceLE, Int.reduceAdd, Int.reduceSub, Int.reduceMul, Int.reducePow, Nat.reducePow, dgs_length, dgs_one, dgs_get, tmodL, tdivL, barr_length, barr_get, barr_set, barr_one, HE.app, Try.f27, List.toList_toArray]))
    refine ⟨fun h => ?_, fun h => ?_⟩
    · have hxk := xext_eq (n := 1) (K := fun v e => e = .none) (hx k (by omega))
      have hxk2 : ∀ {K : TV → HE → Prop}, xext (ctx0 Try.prog w) (some false) 1 (ad.add k) K = K (.s (.v (.int .u8 ((wd8 V (n - 1 - k) : Nat) : Int)))) .none := fun {K} => xext_eq (hx k (by omega))
      obtain ⟨j, hj⟩ : ∃ j, n - 1 - k = j := ⟨_, rfl⟩
      have hj1 : n - k = j + 1 := by omega
      have hj2 : n - (k + 1) = j := by omega
      have hb8 := wd8_lt V j
      have harr := arr_byte V j
      have htp := byte_top V j
      rw [hj] at hxk2
      rw [hj1]
      have hwq := wd_lt (V / 2 ^ (8 * (j + 1)) * 2 ^ (8 * (j + 1))) (j / 8)
      obtain ⟨q, hq⟩ : ∃ q, V / 2 ^ (8 * (j + 1)) * 2 ^ (8 * (j + 1)) = q := ⟨_, rfl⟩
      rw [hq] at harr hwq
      rw [hq]
      obtain ⟨b, hb⟩ : ∃ b, wd8 V j = b := ⟨_, rfl⟩
      rw [hb] at harr htp hb8
      clear hxk hx hq
      (repeat (refine X_of _ ?_; simp -implicitDefEqProofs (maxSteps := 1000000) (disch := first | (simp only [nat4_length, nat8_length, arr_length, iarr_length, dgs_length, barr_length, List.length_cons, List.length_nil, Nat.reduceAdd]; done) | omega) only [vcR, vcT, Int.reduceBEq, Int.reduceBNe, Int.reduceEq, Int.reduceNe, Ab.part, Nat.reduceAdd, Nat.reduceMul, Nat.reduceLeDiff, Nat.reduceEqDiff, Nat.reduceBEq, Nat.reduceBNe, reduceCtorEq, ↓reduceIte, implies_true, forall_const, Int.reduceNeg, Int.reduceToNat, Int.reduceLT, Int.reduceLE, Int.reduceAdd, Int.reduceSub, Int.reduceMul, Int.reducePow, Nat.reducePow, dgs_length, dgs_one, dgs_get, tmodL, tdivL, barr_length, barr_get, barr_set, barr_one, HE.app, Try.f27, List.toList_toArray, hxk2,hb,row_u8,sz_u8,hj]))
      (refine X_draw 12 (by kernel_rfl) (by kernel_rfl) ?_; simp only [List.take_succ_cons, List.take_zero, List.drop_succ_cons, List.drop_zero]; simp -implicitDefEqProofs (maxSteps := 1000000) (disch := first | (simp only [nat4_length, nat8_length, arr_length, iarr_length, dgs_length, barr_length, List.length_cons, List.length_nil, Nat.reduceAdd]; done) | omega) only [vcR, vcT, Int.reduceBEq, Int.reduceBNe, Int.reduceEq, Int.reduceNe, Ab.part, Nat.reduceAdd, Nat.reduceMul, Nat.reduceLeDiff, Nat.reduceEqDiff, Nat.reduceBEq, Nat.reduceBNe, reduceCtorEq, ↓reduceIte, implies_true, forall_const, Int.reduceNeg, Int.reduceToNat, Int.reduceLT, Int.reduceLE, Int.reduceAdd, Int.reduceSub, Int.reduceMul, Int.reducePow, Nat.reducePow, dgs_length, dgs_one, dgs_get, tmodL, tdivL, barr_length, barr_get, barr_set, barr_one, HE.app, Try.f27, List.toList_toArray, w64,orN])
      (repeat (refine X_of _ ?_; simp -implicitDefEqProofs (maxSteps := 1000000) (disch := first | (simp only [nat4_length, nat8_length, arr_length, iarr_length, dgs_length, barr_length, List.length_cons, List.length_nil, Nat.reduceAdd]; done) | omega) only [vcR, vcT, Int.reduceBEq, Int.reduceBNe, Int.reduceEq, Int.reduceNe, Ab.part, Nat.reduceAdd, Nat.reduceMul, Nat.reduceLeDiff, Nat.reduceEqDiff, Nat.reduceBEq, Nat.reduceBNe, reduceCtorEq, ↓reduceIte, implies_true, forall_const, Int.reduceNeg, Int.reduceToNat, Int.reduceLT, Int.reduceLE, Int.reduceAdd, Int.reduceSub, Int.reduceMul, Int.reducePow, Nat.reducePow, dgs_length, dgs_one, dgs_get, tmodL, tdivL, barr_length, barr_get, barr_set, barr_one, HE.app, Try.f27, List.toList_toArray, harr,w64,orN]))
      refine ⟨k + 1, by omega, ?_⟩
      simp -implicitDefEqProofs (maxSteps := 1000000) (disch := first | (simp only [nat4_length, nat8_length, arr_length, iarr_length, dgs_length, barr_length, List.length_cons, List.length_nil, Nat.reduceAdd]; done) | omega) only [vcR, vcT, Int.reduceBEq, Int.reduceBNe, Int.reduceEq, Int.reduceNe, Ab.part, Nat.reduceAdd, Nat.reduceMul, Nat.reduceLeDiff, Nat.reduceEqDiff, Nat.reduceBEq, Nat.reduceBNe, reduceCtorEq, ↓reduceIte, implies_true, forall_const, Int.reduceNeg, Int.reduceToNat, Int.reduceLT, Int.reduceLE, Int.reduceAdd, Int.reduceSub, Int.reduceMul, Int.reducePow, Nat.reducePow, dgs_length, dgs_one, dgs_get, tmodL, tdivL, barr_length, barr_get, barr_set, barr_one, HE.app, Try.f27, List.toList_toArray, again_eq]
      rw [hj2]
      try simp
    · have : k = n := by omega
      subst this
      (repeat (refine X_of _ ?_; simp -implicitDefEqProofs (maxSteps := 1000000) (disch := first | (simp only [nat4_length, nat8_length, arr_length, iarr_length, dgs_length, barr_length, List.length_cons, List.length_nil, Nat.reduceAdd]; done) | omega) only [vcR, vcT, Int.reduceBEq, Int.reduceBNe, Int.reduceEq, Int.reduceNe, Ab.part, Nat.reduceAdd, Nat.reduceMul, Nat.reduceLeDiff, Nat.reduceEqDiff, Nat.reduceBEq, Nat.reduceBNe, reduceCtorEq, ↓reduceIte, implies_true, forall_const, Int.reduceNeg, Int.reduceToNat, Int.reduceLT, Int.reduceLE, Int.reduceAdd, Int.reduceSub, Int.reduceMul, Int.reducePow, Nat.reducePow, dgs_length, dgs_one, dgs_get, tmodL, tdivL, barr_length, barr_get, barr_set, barr_one, HE.app, Try.f27, List.toList_toArray]))
      try simp
end Go.Proofs.Ytpikjhpbldocnaa
