import Derived.Test.YtpikjhpbldocnaaL20
import Derived.Test.YtpikjhpbldocnaaAb14
namespace Go.Proofs.Ytpikjhpbldocnaa
open Go Go.Ab
set_option linter.unusedSimpArgs false
set_option linter.unusedVariables false
set_option maxHeartbeats 20000000
set_option maxRecDepth 100000

theorem barr_one1 (x : Nat) : (barr 1 fun j => if j = 0 then x else 0) = [.v (.int .u8 (x : Int))] := by simp [barr, List.range_succ]
theorem ap_u8 (n : Nat) (hn : n ≤ 1000000) : apOK Try.prog 5 n := by
  have h1 : (Try.prog.info? 5).map (fun i => (i.bytes, i.size, i.zero)) = some (1, 1, some (.int .u8 0)) := by kernel_rfl
  cases hi : Try.prog.info? 5 with
  | none => rw [hi] at h1; cases h1
  | some i =>
    rw [hi] at h1
    simp only [Option.map_some, Option.some.injEq, Prod.mk.injEq] at h1
    exact ⟨i, _, hi, h1.2.2, by rw [h1.2.1]; rfl, by rw [h1.1]; omega, by omega⟩


theorem rbytes_c (a : Nat) (ha : a < 2 ^ 256) : NewC Try.prog 30 [.agg (nat4 a)] (fun v H => ∃ (c : Nat) (sp : List Value), v = .s (.sl 0 0 32 c) ∧ H = [⟨5, (barr 32 fun i => wd8 a (31 - i)) ++ sp.map .v⟩]) := by
  refine newC_of Try.func30 rfl (by simp only [List.length_cons, List.length_nil, List.map_cons, List.map_nil, List.nodup_cons, List.nodup_nil, List.mem_cons, Nat.reduceAdd, Nat.reduceEqDiff, or_false, not_false_eq_true, forall_eq_or_imp, forall_eq, or_self, okv_p, okv_sl, Nat.reduceLT, Nat.reduceLeDiff, and_self, List.forall_mem_cons, List.not_mem_nil, false_implies, implies_true, and_true, true_and, oks_s, oks_agg, oks_tup, oka_s, oka_agg, okv_v, nat4_okk, nat8_okk, arr_okk, iarr_okk, dgs_okk, barr_okk]) fun w => ?_
  simp only [List.length_cons, List.length_nil, Try.ntmps30, Nat.reduceAdd, Nat.reduceSub, List.replicate_succ, List.replicate_zero, List.cons_append, List.nil_append]
  have hnat := rnat_c a ha
  clear ha
  (repeat (refine X_of _ ?_; simp -implicitDefEqProofs (maxSteps := 1000000) (disch := first | (simp only [nat4_length, nat8_length, arr_length, iarr_length, dgs_length, barr_length, List.length_cons, List.length_nil, Nat.reduceAdd]; done) | omega) only [vcR, vcT, Int.reduceBEq, Int.reduceBNe, Int.reduceEq, Int.reduceNe, Ab.part, Nat.reduceAdd, Nat.reduceMul, Nat.reduceLeDiff, Nat.reduceEqDiff, Nat.reduceBEq, Nat.reduceBNe, reduceCtorEq, ↓reduceIte, implies_true, forall_const, Int.reduceNeg, Int.reduceToNat, Int.reduceLT, Int.reduceLE, Int.reduceAdd, Int.reduceSub, Int.reduceMul, Int.reducePow, Nat.reducePow, dgs_length, dgs_one, dgs_get, tmodL, tdivL, barr_length, barr_get, barr_set, barr_one, HE.app, Try.f30, List.toList_toArray]))
  (apply xcall_pure; kernel_rfl; exact PureC.cal (hnat); try simp -implicitDefEqProofs (maxSteps := 1000000) (disch := first | (simp only [nat4_length, nat8_length, arr_length, iarr_length, dgs_length, barr_length, List.length_cons, List.length_nil, Nat.reduceAdd]; done) | omega) only [vcR, vcT, Int.reduceBEq, Int.reduceBNe, Int.reduceEq, Int.reduceNe, Ab.part, Nat.reduceAdd, Nat.reduceMul, Nat.reduceLeDiff, Nat.reduceEqDiff, Nat.reduceBEq, Nat.reduceBNe, reduceCtorEq, ↓reduceIte, implies_true, forall_const, Int.reduceNeg, Int.reduceToNat, Int.reduceLT, Int.reduceLE, Int.reduceAdd, Int.reduceSub, Int.reduceMul, Int.reducePow, Nat.reducePow, dgs_length, dgs_one, dgs_get, tmodL, tdivL, barr_length, barr_get, barr_set, barr_one, HE.app, Try.f30, List.toList_toArray])
  (repeat (refine X_of _ ?_; simp -implicitDefEqProofs (maxSteps := 1000000) (disch := first | (simp only [nat4_length, nat8_length, arr_length, iarr_length, dgs_length, barr_length, List.length_cons, List.length_nil, Nat.reduceAdd]; done) | omega) only [vcR, vcT, Int.reduceBEq, Int.reduceBNe, Int.reduceEq, Int.reduceNe, Ab.part, Nat.reduceAdd, Nat.reduceMul, Nat.reduceLeDiff, Nat.reduceEqDiff, Nat.reduceBEq, Nat.reduceBNe, reduceCtorEq, ↓reduceIte, implies_true, forall_const, Int.reduceNeg, Int.reduceToNat, Int.reduceLT, Int.reduceLE, Int.reduceAdd, Int.reduceSub, Int.reduceMul, Int.reducePow, Nat.reducePow, dgs_length, dgs_one, dgs_get, tmodL, tdivL, barr_length, barr_get, barr_set, barr_one, HE.app, Try.f30, List.toList_toArray]))
  refine X_loopT (ι := Nat × Nat × List Value) (fun i => i.1 ≤ 32 ∧ (i.1 = 0 ∨ (i.1 ≤ i.2.1 ∧ i.2.2.length = i.2.1 - i.1))) (fun i => 32 - i.1) [4, 5, 8, 9, 10, 11, 12, 13, 14, 15, 16, 17, 18]
    (fun i => [(4, if i.1 = 0 then .s (.v (.slice none 0 0)) else .s (.sl 2 0 i.1 i.2.1)), (5, .s (.v (.int .i64 (31 - (i.1 : Int)))))])
    (fun i => [⟨24, nat4 a⟩, ⟨60, dgs a⟩] ++ if i.1 = 0 then [] else [⟨5, (barr i.1 fun t => wd8 a (31 - t)) ++ i.2.2.map .v⟩]) (0, 0, []) ?_ (by decide) ?_ ?_
  · rintro ⟨k, c, sp⟩ ⟨hk, hkc⟩
    refine ⟨by simp, ?_, ?_, ?_⟩
    · by_cases h : k = 0
      · simp [h, TV.ok, SV.ok]
      · simp [h, TV.ok, SV.ok]
    · by_cases h : k = 0 <;> simp [h]
    · intro b hb
      by_cases h : k = 0
      · simp only [h, if_true, List.append_nil, List.mem_cons, List.not_mem_nil, or_false] at hb
        rcases hb with rfl | rfl
        · exact arr_ok _
        · exact iarr_ok _
      · simp only [h, if_false, List.cons_append, List.nil_append, List.mem_cons, List.not_mem_nil, or_false] at hb
        rcases hb with rfl | rfl | rfl
        · exact arr_ok _
        · exact iarr_ok _
        · intro x hx
          rcases List.mem_append.1 hx with hx | hx
          · exact barr_ok _ x hx
          · exact vals_ok x hx
  · refine ⟨⟨by decide, .inl rfl⟩, [0, 1], ⟨by decide, rfl⟩, ?_, ?_⟩
    · simp -implicitDefEqProofs (maxSteps := 1000000) (disch := first | (simp only [nat4_length, nat8_length, arr_length, iarr_length, dgs_length, barr_length, List.length_cons, List.length_nil, Nat.reduceAdd]; done) | omega) only [vcR, vcT, Int.reduceBEq, Int.reduceBNe, Int.reduceEq, Int.reduceNe, Ab.part, Nat.reduceAdd, Nat.reduceMul, Nat.reduceLeDiff, Nat.reduceEqDiff, Nat.reduceBEq, Nat.reduceBNe, reduceCtorEq, ↓reduceIte, implies_true, forall_const, Int.reduceNeg, Int.reduceToNat, Int.reduceLT, Int.reduceLE, Int.reduceAdd, Int.reduceSub, Int.reduceMul, Int.reducePow, Nat.reducePow, dgs_length, dgs_one, dgs_get, tmodL, tdivL, barr_length, barr_get, barr_set, barr_one, HE.app, Try.f30, List.toList_toArray, renS_cons,renS_nil,ren_v]
    · exact ⟨rfl, rfl, trivial⟩
  · rintro ⟨k, c, sp⟩ us ⟨hk, hkc⟩
    simp only at hk hkc ⊢
    have hd8 := wd8_lt a (31 - k)
    by_cases h0 : k = 0
    · subst h0
      clear hkc hk
      have hap := ap_u8 1 (by decide)
      simp only [if_true, List.append_nil]
      (refine X_of _ ?_; simp -implicitDefEqProofs (maxSteps := 1000000) (disch := first | (simp only [nat4_length, nat8_length, arr_length, iarr_length, dgs_length, barr_length, List.length_cons, List.length_nil, Nat.reduceAdd]; done) | omega) only [vcR, vcT, Int.reduceBEq, Int.reduceBNe, Int.reduceEq, Int.reduceNe, Ab.part, Nat.reduceAdd, Nat.reduceMul, Nat.reduceLeDiff, Nat.reduceEqDiff, Nat.reduceBEq, Nat.reduceBNe, reduceCtorEq, ↓reduceIte, implies_true, forall_const, Int.reduceNeg, Int.reduceToNat, Int.reduceLT, Int.reduceLE, Int.reduceAdd, Int.reduceSub, Int.reduceMul, Int.reducePow, Nat.reducePow, dgs_length, dgs_one, dgs_get, tmodL, tdivL, barr_length, barr_get, barr_set, barr_one, HE.app, Try.f30, List.toList_toArray])
      (refine X_of _ ?_; simp -implicitDefEqProofs (maxSteps := 1000000) (disch := first | (simp only [nat4_length, nat8_length, arr_length, iarr_length, dgs_length, barr_length, List.length_cons, List.length_nil, Nat.reduceAdd]; done) | omega) only [vcR, vcT, Int.reduceBEq, Int.reduceBNe, Int.reduceEq, Int.reduceNe, Ab.part, Nat.reduceAdd, Nat.reduceMul, Nat.reduceLeDiff, Nat.reduceEqDiff, Nat.reduceBEq, Nat.reduceBNe, reduceCtorEq, ↓reduceIte, implies_true, forall_const, Int.reduceNeg, Int.reduceToNat, Int.reduceLT, Int.reduceLE, Int.reduceAdd, Int.reduceSub, Int.reduceMul, Int.reducePow, Nat.reducePow, dgs_length, dgs_one, dgs_get, tmodL, tdivL, barr_length, barr_get, barr_set, barr_one, HE.app, Try.f30, List.toList_toArray])
      have hmod : wd8 a 31 % 256 = wd8 a 31 := Nat.mod_eq_of_lt hd8
      (try (first | with_reducible refine X_regRS ?_ | with_reducible refine X_regR ?_ | (with_reducible refine X_seqX ?_; with_reducible refine X_blockX ?_; with_reducible refine X_regR ?_))); (repeat ((first | with_reducible refine XR_make ?_ | with_reducible refine XR_append ?_ | with_reducible refine XR_cons ?_ | with_reducible refine XR_consG ?_ | with_reducible refine XR_nil ?_); try simp -implicitDefEqProofs (maxSteps := 1000000) (disch := first | (simp only [nat4_length, nat8_length, arr_length, iarr_length, dgs_length, barr_length, List.length_cons, List.length_nil, Nat.reduceAdd]; done) | omega) only [vcR, vcT, Int.reduceBEq, Int.reduceBNe, Int.reduceEq, Int.reduceNe, Ab.part, Nat.reduceAdd, Nat.reduceMul, Nat.reduceLeDiff, Nat.reduceEqDiff, Nat.reduceBEq, Nat.reduceBNe, reduceCtorEq, ↓reduceIte, implies_true, forall_const, Int.reduceNeg, Int.reduceToNat, Int.reduceLT, Int.reduceLE, Int.reduceAdd, Int.reduceSub, Int.reduceMul, Int.reducePow, Nat.reducePow, dgs_length, dgs_one, dgs_get, tmodL, tdivL, barr_length, barr_get, barr_set, barr_one, HE.app, Try.f30, List.toList_toArray, st_bs,xbs_some,slc_u8,z_u8,w8m,setAt_one,hmod]))
      refine xappend_nil_i (news_barr sz_u8 rfl) (by decide) (ap_u8 1 (by decide)) (fun h => h) fun c' sp' hc hsp => ?_
      (try (first | with_reducible refine X_regRS ?_ | with_reducible refine X_regR ?_ | (with_reducible refine X_seqX ?_; with_reducible refine X_blockX ?_; with_reducible refine X_regR ?_))); (repeat ((first | with_reducible refine XR_make ?_ | with_reducible refine XR_append ?_ | with_reducible refine XR_cons ?_ | with_reducible refine XR_consG ?_ | with_reducible refine XR_nil ?_); try simp -implicitDefEqProofs (maxSteps := 1000000) (disch := first | (simp only [nat4_length, nat8_length, arr_length, iarr_length, dgs_length, barr_length, List.length_cons, List.length_nil, Nat.reduceAdd]; done) | omega) only [vcR, vcT, Int.reduceBEq, Int.reduceBNe, Int.reduceEq, Int.reduceNe, Ab.part, Nat.reduceAdd, Nat.reduceMul, Nat.reduceLeDiff, Nat.reduceEqDiff, Nat.reduceBEq, Nat.reduceBNe, reduceCtorEq, ↓reduceIte, implies_true, forall_const, Int.reduceNeg, Int.reduceToNat, Int.reduceLT, Int.reduceLE, Int.reduceAdd, Int.reduceSub, Int.reduceMul, Int.reducePow, Nat.reducePow, dgs_length, dgs_one, dgs_get, tmodL, tdivL, barr_length, barr_get, barr_set, barr_one, HE.app, Try.f30, List.toList_toArray]))
      (repeat (refine X_of _ ?_; simp -implicitDefEqProofs (maxSteps := 1000000) (disch := first | (simp only [nat4_length, nat8_length, arr_length, iarr_length, dgs_length, barr_length, List.length_cons, List.length_nil, Nat.reduceAdd]; done) | omega) only [vcR, vcT, Int.reduceBEq, Int.reduceBNe, Int.reduceEq, Int.reduceNe, Ab.part, Nat.reduceAdd, Nat.reduceMul, Nat.reduceLeDiff, Nat.reduceEqDiff, Nat.reduceBEq, Nat.reduceBNe, reduceCtorEq, ↓reduceIte, implies_true, forall_const, Int.reduceNeg, Int.reduceToNat, Int.reduceLT, Int.reduceLE, Int.reduceAdd, Int.reduceSub, Int.reduceMul, Int.reducePow, Nat.reducePow, dgs_length, dgs_one, dgs_get, tmodL, tdivL, barr_length, barr_get, barr_set, barr_one, HE.app, Try.f30, List.toList_toArray]))
      refine ⟨(1, c', sp'), by simp, ⟨by simp, .inr ⟨hc, by rw [show sz (ctx0 Try.prog w).P 5 = 1 from sz_u8, Nat.mul_one] at hsp; exact hsp⟩⟩, [0, 1, 3], ⟨by decide, rfl⟩, ?_, ?_⟩
      · simp -implicitDefEqProofs (maxSteps := 1000000) (disch := first | (simp only [nat4_length, nat8_length, arr_length, iarr_length, dgs_length, barr_length, List.length_cons, List.length_nil, Nat.reduceAdd]; done) | omega) only [vcR, vcT, Int.reduceBEq, Int.reduceBNe, Int.reduceEq, Int.reduceNe, Ab.part, Nat.reduceAdd, Nat.reduceMul, Nat.reduceLeDiff, Nat.reduceEqDiff, Nat.reduceBEq, Nat.reduceBNe, reduceCtorEq, ↓reduceIte, implies_true, forall_const, Int.reduceNeg, Int.reduceToNat, Int.reduceLT, Int.reduceLE, Int.reduceAdd, Int.reduceSub, Int.reduceMul, Int.reducePow, Nat.reducePow, dgs_length, dgs_one, dgs_get, tmodL, tdivL, barr_length, barr_get, barr_set, barr_one, HE.app, Try.f30, List.toList_toArray, renS_cons,renS_nil,ren_v,ren_sl]
        try simp [lk]
      · refine ⟨rfl, rfl, ?_, trivial⟩
        refine congrArg some (congrArg (AB.mk _) (congrArg (· ++ sp'.map SV.v) (barr_congr fun i hi => ?_)))
        have : i = 0 := by omega
        subst this
        rfl
    · have hkc2 : k ≤ c ∧ sp.length = c - k := by omega
      obtain ⟨hkc1, hspl⟩ := hkc2
      clear hkc
      simp only [h0, if_false, List.cons_append, List.nil_append]
      by_cases hk32 : k < 32
      · have hmod : wd8 a (31 - k) % 256 = wd8 a (31 - k) := Nat.mod_eq_of_lt hd8
        have ej : (31 : Int) - (k : Int) = ((31 - k : Nat) : Int) := by omega
        have hblk : ∀ l : List SV, ((barr k fun t => wd8 a (31 - t)) ++ l).take k ++ (barr 1 fun j => if j = 0 then wd8 a (31 - k) else 0) = barr (k + 1) fun t => wd8 a (31 - t) := fun l => by
          rw [barr_take, barr_one1, barr_snoc]
        have hblen : ((barr k fun t => wd8 a (31 - t)) ++ sp.map SV.v).length = c := by rw [List.length_append, barr_length, List.length_map]; omega
        have hszu : sz (ctx0 Try.prog w).P 5 = 1 := sz_u8
        (refine X_of _ ?_; simp -implicitDefEqProofs (maxSteps := 1000000) (disch := first | (simp only [nat4_length, nat8_length, arr_length, iarr_length, dgs_length, barr_length, List.length_cons, List.length_nil, Nat.reduceAdd]; done) | omega) only [vcR, vcT, Int.reduceBEq, Int.reduceBNe, Int.reduceEq, Int.reduceNe, Ab.part, Nat.reduceAdd, Nat.reduceMul, Nat.reduceLeDiff, Nat.reduceEqDiff, Nat.reduceBEq, Nat.reduceBNe, reduceCtorEq, ↓reduceIte, implies_true, forall_const, Int.reduceNeg, Int.reduceToNat, Int.reduceLT, Int.reduceLE, Int.reduceAdd, Int.reduceSub, Int.reduceMul, Int.reducePow, Nat.reducePow, dgs_length, dgs_one, dgs_get, tmodL, tdivL, barr_length, barr_get, barr_set, barr_one, HE.app, Try.f30, List.toList_toArray, ej])
        (refine X_of _ ?_; simp -implicitDefEqProofs (maxSteps := 1000000) (disch := first | (simp only [nat4_length, nat8_length, arr_length, iarr_length, dgs_length, barr_length, List.length_cons, List.length_nil, Nat.reduceAdd]; done) | omega) only [vcR, vcT, Int.reduceBEq, Int.reduceBNe, Int.reduceEq, Int.reduceNe, Ab.part, Nat.reduceAdd, Nat.reduceMul, Nat.reduceLeDiff, Nat.reduceEqDiff, Nat.reduceBEq, Nat.reduceBNe, reduceCtorEq, ↓reduceIte, implies_true, forall_const, Int.reduceNeg, Int.reduceToNat, Int.reduceLT, Int.reduceLE, Int.reduceAdd, Int.reduceSub, Int.reduceMul, Int.reducePow, Nat.reducePow, dgs_length, dgs_one, dgs_get, tmodL, tdivL, barr_length, barr_get, barr_set, barr_one, HE.app, Try.f30, List.toList_toArray, ej])
        (try (first | with_reducible refine X_regRS ?_ | with_reducible refine X_regR ?_ | (with_reducible refine X_seqX ?_; with_reducible refine X_blockX ?_; with_reducible refine X_regR ?_))); (repeat ((first | with_reducible refine XR_make ?_ | with_reducible refine XR_append ?_ | with_reducible refine XR_cons ?_ | with_reducible refine XR_consG ?_ | with_reducible refine XR_nil ?_); try simp -implicitDefEqProofs (maxSteps := 1000000) (disch := first | (simp only [nat4_length, nat8_length, arr_length, iarr_length, dgs_length, barr_length, List.length_cons, List.length_nil, Nat.reduceAdd]; done) | omega) only [vcR, vcT, Int.reduceBEq, Int.reduceBNe, Int.reduceEq, Int.reduceNe, Ab.part, Nat.reduceAdd, Nat.reduceMul, Nat.reduceLeDiff, Nat.reduceEqDiff, Nat.reduceBEq, Nat.reduceBNe, reduceCtorEq, ↓reduceIte, implies_true, forall_const, Int.reduceNeg, Int.reduceToNat, Int.reduceLT, Int.reduceLE, Int.reduceAdd, Int.reduceSub, Int.reduceMul, Int.reducePow, Nat.reducePow, dgs_length, dgs_one, dgs_get, tmodL, tdivL, barr_length, barr_get, barr_set, barr_one, HE.app, Try.f30, List.toList_toArray, st_bs,xbs_some,slc_u8,z_u8,w8m,setAt_one,hmod]))
        refine xappend_sl_i (news_barr sz_u8 rfl) rfl rfl (by rw [hszu, Nat.mul_one, hblen]; exact Nat.le_refl _) hkc1 (ap_u8 (k + 1) (by omega)) (by rw [barr_one]; trivial) (fun h => h) (fun hfit => ?_) (fun hgr c' sp' hc hsp => ?_)
        · simp only [hszu, Nat.mul_one, hblk, barr_length]
          (try (first | with_reducible refine X_regRS ?_ | with_reducible refine X_regR ?_ | (with_reducible refine X_seqX ?_; with_reducible refine X_blockX ?_; with_reducible refine X_regR ?_))); (repeat ((first | with_reducible refine XR_make ?_ | with_reducible refine XR_append ?_ | with_reducible refine XR_cons ?_ | with_reducible refine XR_consG ?_ | with_reducible refine XR_nil ?_); try simp -implicitDefEqProofs (maxSteps := 1000000) (disch := first | (simp only [nat4_length, nat8_length, arr_length, iarr_length, dgs_length, barr_length, List.length_cons, List.length_nil, Nat.reduceAdd]; done) | omega) only [vcR, vcT, Int.reduceBEq, Int.reduceBNe, Int.reduceEq, Int.reduceNe, Ab.part, Nat.reduceAdd, Nat.reduceMul, Nat.reduceLeDiff, Nat.reduceEqDiff, Nat.reduceBEq, Nat.reduceBNe, reduceCtorEq, ↓reduceIte, implies_true, forall_const, Int.reduceNeg, Int.reduceToNat, Int.reduceLT, Int.reduceLE, Int.reduceAdd, Int.reduceSub, Int.reduceMul, Int.reducePow, Nat.reducePow, dgs_length, dgs_one, dgs_get, tmodL, tdivL, barr_length, barr_get, barr_set, barr_one, HE.app, Try.f30, List.toList_toArray]))
          (repeat (refine X_of _ ?_; simp -implicitDefEqProofs (maxSteps := 1000000) (disch := first | (simp only [nat4_length, nat8_length, arr_length, iarr_length, dgs_length, barr_length, List.length_cons, List.length_nil, Nat.reduceAdd]; done) | omega) only [vcR, vcT, Int.reduceBEq, Int.reduceBNe, Int.reduceEq, Int.reduceNe, Ab.part, Nat.reduceAdd, Nat.reduceMul, Nat.reduceLeDiff, Nat.reduceEqDiff, Nat.reduceBEq, Nat.reduceBNe, reduceCtorEq, ↓reduceIte, implies_true, forall_const, Int.reduceNeg, Int.reduceToNat, Int.reduceLT, Int.reduceLE, Int.reduceAdd, Int.reduceSub, Int.reduceMul, Int.reducePow, Nat.reducePow, dgs_length, dgs_one, dgs_get, tmodL, tdivL, barr_length, barr_get, barr_set, barr_one, HE.app, Try.f30, List.toList_toArray, ej]))
          refine ⟨(k + 1, c, sp.drop 1), by simp; omega, ⟨by simp; omega, .inr ⟨hfit, by show (sp.drop 1).length = c - (k + 1); rw [List.length_drop]; omega⟩⟩, [0, 1, 2], ⟨by decide, rfl⟩, ?_, ?_⟩
          · simp only [Nat.add_eq_zero_iff, Nat.one_ne_zero, and_false, if_false]
            simp -implicitDefEqProofs (maxSteps := 1000000) (disch := first | (simp only [nat4_length, nat8_length, arr_length, iarr_length, dgs_length, barr_length, List.length_cons, List.length_nil, Nat.reduceAdd]; done) | omega) only [vcR, vcT, Int.reduceBEq, Int.reduceBNe, Int.reduceEq, Int.reduceNe, Ab.part, Nat.reduceAdd, Nat.reduceMul, Nat.reduceLeDiff, Nat.reduceEqDiff, Nat.reduceBEq, Nat.reduceBNe, reduceCtorEq, ↓reduceIte, implies_true, forall_const, Int.reduceNeg, Int.reduceToNat, Int.reduceLT, Int.reduceLE, Int.reduceAdd, Int.reduceSub, Int.reduceMul, Int.reducePow, Nat.reducePow, dgs_length, dgs_one, dgs_get, tmodL, tdivL, barr_length, barr_get, barr_set, barr_one, HE.app, Try.f30, List.toList_toArray, renS_cons,renS_nil,ren_v,ren_sl]
            simp [lk]
            try omega
          · refine ⟨rfl, rfl, ?_, trivial⟩
            refine congrArg some (congrArg (AB.mk _) (congrArg (_ ++ ·) ?_))
            rw [List.drop_append, barr_length, List.drop_of_length_le (by rw [barr_length]; omega), List.nil_append, show k + 1 - k = 1 by omega, List.map_drop]
        · simp only [hszu, Nat.mul_one, hblk] at hsp ⊢
          (try (first | with_reducible refine X_regRS ?_ | with_reducible refine X_regR ?_ | (with_reducible refine X_seqX ?_; with_reducible refine X_blockX ?_; with_reducible refine X_regR ?_))); (repeat ((first | with_reducible refine XR_make ?_ | with_reducible refine XR_append ?_ | with_reducible refine XR_cons ?_ | with_reducible refine XR_consG ?_ | with_reducible refine XR_nil ?_); try simp -implicitDefEqProofs (maxSteps := 1000000) (disch := first | (simp only [nat4_length, nat8_length, arr_length, iarr_length, dgs_length, barr_length, List.length_cons, List.length_nil, Nat.reduceAdd]; done) | omega) only [vcR, vcT, Int.reduceBEq, Int.reduceBNe, Int.reduceEq, Int.reduceNe, Ab.part, Nat.reduceAdd, Nat.reduceMul, Nat.reduceLeDiff, Nat.reduceEqDiff, Nat.reduceBEq, Nat.reduceBNe, reduceCtorEq, ↓reduceIte, implies_true, forall_const, Int.reduceNeg, Int.reduceToNat, Int.reduceLT, Int.reduceLE, Int.reduceAdd, Int.reduceSub, Int.reduceMul, Int.reducePow, Nat.reducePow, dgs_length, dgs_one, dgs_get, tmodL, tdivL, barr_length, barr_get, barr_set, barr_one, HE.app, Try.f30, List.toList_toArray]))
          (repeat (refine X_of _ ?_; simp -implicitDefEqProofs (maxSteps := 1000000) (disch := first | (simp only [nat4_length, nat8_length, arr_length, iarr_length, dgs_length, barr_length, List.length_cons, List.length_nil, Nat.reduceAdd]; done) | omega) only [vcR, vcT, Int.reduceBEq, Int.reduceBNe, Int.reduceEq, Int.reduceNe, Ab.part, Nat.reduceAdd, Nat.reduceMul, Nat.reduceLeDiff, Nat.reduceEqDiff, Nat.reduceBEq, Nat.reduceBNe, reduceCtorEq, ↓reduceIte, implies_true, forall_const, Int.reduceNeg, Int.reduceToNat, Int.reduceLT, Int.reduceLE, Int.reduceAdd, Int.reduceSub, Int.reduceMul, Int.reducePow, Nat.reducePow, dgs_length, dgs_one, dgs_get, tmodL, tdivL, barr_length, barr_get, barr_set, barr_one, HE.app, Try.f30, List.toList_toArray, ej]))
          refine ⟨(k + 1, c', sp'), by simp; omega, ⟨by simp; omega, .inr ⟨hc, hsp⟩⟩, [0, 1, 4], ⟨by decide, rfl⟩, ?_, ?_⟩
          · simp only [Nat.add_eq_zero_iff, Nat.one_ne_zero, and_false, if_false]
            simp -implicitDefEqProofs (maxSteps := 1000000) (disch := first | (simp only [nat4_length, nat8_length, arr_length, iarr_length, dgs_length, barr_length, List.length_cons, List.length_nil, Nat.reduceAdd]; done) | omega) only [vcR, vcT, Int.reduceBEq, Int.reduceBNe, Int.reduceEq, Int.reduceNe, Ab.part, Nat.reduceAdd, Nat.reduceMul, Nat.reduceLeDiff, Nat.reduceEqDiff, Nat.reduceBEq, Nat.reduceBNe, reduceCtorEq, ↓reduceIte, implies_true, forall_const, Int.reduceNeg, Int.reduceToNat, Int.reduceLT, Int.reduceLE, Int.reduceAdd, Int.reduceSub, Int.reduceMul, Int.reducePow, Nat.reducePow, dgs_length, dgs_one, dgs_get, tmodL, tdivL, barr_length, barr_get, barr_set, barr_one, HE.app, Try.f30, List.toList_toArray, renS_cons,renS_nil,ren_v,ren_sl]
            simp [lk]
            try omega
          · exact ⟨rfl, rfl, rfl, trivial⟩
      · have hk2 : k = 32 := by omega
        subst hk2
        (repeat (refine X_of _ ?_; simp -implicitDefEqProofs (maxSteps := 1000000) (disch := first | (simp only [nat4_length, nat8_length, arr_length, iarr_length, dgs_length, barr_length, List.length_cons, List.length_nil, Nat.reduceAdd]; done) | omega) only [vcR, vcT, Int.reduceBEq, Int.reduceBNe, Int.reduceEq, Int.reduceNe, Ab.part, Nat.reduceAdd, Nat.reduceMul, Nat.reduceLeDiff, Nat.reduceEqDiff, Nat.reduceBEq, Nat.reduceBNe, reduceCtorEq, ↓reduceIte, implies_true, forall_const, Int.reduceNeg, Int.reduceToNat, Int.reduceLT, Int.reduceLE, Int.reduceAdd, Int.reduceSub, Int.reduceMul, Int.reducePow, Nat.reducePow, dgs_length, dgs_one, dgs_get, tmodL, tdivL, barr_length, barr_get, barr_set, barr_one, HE.app, Try.f30, List.toList_toArray]))
        exact ⟨[2], .s (.sl 0 0 32 c), _, ⟨c, sp, rfl, rfl⟩, by decide, rfl, Nat.lt_succ_self 0, ⟨rfl, trivial⟩, by
          simp only [List.mem_singleton, forall_eq]
          intro x hx
          rcases List.mem_append.1 hx with hx | hx
          · exact barr_ok _ x hx
          · exact vals_ok x hx⟩
end Go.Proofs.Ytpikjhpbldocnaa
