/-
  mont.New; the images; every method, told of any Mod.
-/
import Derived.Test.YthniflakjkbpiaaDoorAb26
import Derived.Test.YthniflakjkbpiaaDoorM6
import Derived.Test.YthniflakjkbpiaaDoorKM
import Derived.Test.YthniflakjkbpiaaDoorR1
import Derived.Test.YthniflakjkbpiaaDoorKB
namespace Go.Proofs.YthniflakjkbpiaaDoor
open Go Go.Ab
set_option linter.unusedSimpArgs false
set_option linter.unusedVariables false
set_option linter.defProp false
set_option maxHeartbeats 20000000
set_option maxRecDepth 100000


theorem pow_e (k m a n : Nat) (hG : OddM m) (ha : a < 2 ^ 256) (hn : n < 2 ^ 256) : EvC (modEvo 86) Tryd.prog 27 [.s (.v (.pointer (some ⟨k, 0, none⟩))), .agg (nat4 a), .agg (nat4 n)] (isMod 86 k m) (.agg (nat4 (a ^ n % m))) := by
  have h1 := to_e k m 1 hG (by decide)
  have h2 := to_e k m a hG ha
  have hb : blen n ≤ 256 := blen_le n 256 hn
  have h3 := from_e k m (gimg m a n (blen n)) hG (gimg_lt hG a n _)
  rw [gimg_end hG] at h3
  rw [← gimg_zero m a n] at h1
  rw [← pimg_zero m a] at h2
  obtain ⟨r, hr⟩ : ∃ r, a ^ n % m = r := ⟨_, rfl⟩
  rw [hr] at h3
  rw [hr]
  clear hr
  (refine evC_of Tryd.func27 rfl (by simp only [List.length_cons, List.length_nil, List.map_cons, List.map_nil, List.nodup_cons, List.nodup_nil, List.mem_cons, Nat.reduceAdd, Nat.reduceEqDiff, or_false, not_false_eq_true, forall_eq_or_imp, forall_eq, or_self, Nat.reduceLT, Nat.reduceLeDiff, and_self, List.forall_mem_cons, List.not_mem_nil, false_implies, implies_true, and_true, true_and, vcOAb26]) (by simp only [List.length_cons, List.length_nil, List.map_cons, List.map_nil, List.nodup_cons, List.nodup_nil, List.mem_cons, Nat.reduceAdd, Nat.reduceEqDiff, or_false, not_false_eq_true, forall_eq_or_imp, forall_eq, or_self, Nat.reduceLT, Nat.reduceLeDiff, and_self, List.forall_mem_cons, List.not_mem_nil, false_implies, implies_true, and_true, true_and, vcOAb26]) fun B w hpre => ?_; simp only [List.length_cons, List.length_nil, Tryd.ntmps27, Nat.reduceAdd, Nat.reduceSub, List.replicate_succ, List.replicate_zero, List.cons_append, List.nil_append])
  have hM : Kn (ctxE Tryd.prog (modEvo 86) w B) (isMod 86 k m) := Kn.entry (isMod_stays _ k m) hpre
  clear hpre
  (repeat' ((first | with_reducible (first | apply XR_cons | apply XR_consG | apply XR_nil | apply XM_cons | apply XM_consG | apply XM_nil | apply cF_pure (by assumption) | apply cM_pure (by assumption) | apply cF_ev (by assumption) | apply cM_ev (by assumption) | apply cF_pure (bit_n _ _ bd0) | apply cM_pure (bit_n _ _ bd0) | apply cF_pure (len_c _ bd0) | apply cM_pure (len_c _ bd0) | apply cF_ev (from_e _ _ _ bd0 bd0) | apply cM_ev (from_e _ _ _ bd0 bd0) | apply cF_ev (mul_e _ _ _ _ bd0 bd0 bd0) | apply cM_ev (mul_e _ _ _ _ bd0 bd0 bd0) | apply cF_ev (to_e _ _ _ bd0 bd0) | apply cM_ev (to_e _ _ _ bd0 bd0)) | (with_reducible apply X_drawM (id := 1) 6 [] (.cons 6 (.cons 7 (.cons 8 (.cons 9 .nil .nil) .nil) .nil) (.cons 7 (.cons 6 (.cons 8 (.cons 9 .nil .nil) .nil) .nil) .nil)); (next => (kernel_rfl)); (next => (kernel_rfl))) | refine X_of _ ?_ | with_reducible (first | exact ⟨_, rfl⟩ | refine And.intro ?_ ?_ | intro _)) <;> try simp -implicitDefEqProofs (maxSteps := 1000000) (disch := first | exact dz0 | fail) only [vcR, vcT, Int.reduceBEq, Int.reduceBNe, Int.reduceEq, Int.reduceNe, Ab.part, Nat.reduceAdd, Nat.reduceMul, Nat.reduceLeDiff, Nat.reduceEqDiff, Nat.reduceBEq, Nat.reduceBNe, reduceCtorEq, ↓reduceIte, implies_true, forall_const, Int.reduceNeg, Int.reduceToNat, Int.reduceLT, Int.reduceLE, Int.reduceAdd, Int.reduceSub, Int.reduceMul, Int.reducePow, Nat.reducePow, true_or, Option.isNone_some, Option.isNone_none, vcXAb26, Tryd.f27, List.toList_toArray, arr4_zero, nat4_set1, nat4_setL, nat4_set0]))
  rotate_left
  (refine X_permL [0, 1, 2, 4, 3] rfl rfl (by decide) (by decide) (by simp only [List.length_cons, List.length_nil, List.map_cons, List.map_nil, List.nodup_cons, List.nodup_nil, List.mem_cons, Nat.reduceAdd, Nat.reduceEqDiff, or_false, not_false_eq_true, forall_eq_or_imp, forall_eq, or_self, Nat.reduceLT, Nat.reduceLeDiff, and_self, List.forall_mem_cons, List.not_mem_nil, false_implies, implies_true, and_true, true_and, vcOAb26]) ?_; simp only [ren_v, ren_p, ren_sl, ren_undef, ren_tupE, ren_tup, avren_v, avren_p, avren_nat4, ren_nat4, lk_def, pickH_nil, pickH_cons, consH_some, List.map_cons, List.map_nil, List.getD_cons_zero, List.getD_cons_succ, List.getElem?_cons_zero, List.getElem?_cons_succ])
  all_goals
    refine X_loop (ι := Nat) (fun i => i ≤ blen n) (fun i => blen n - i) [9, 18, 19, 20, 21, 22, 23, 24, 25, 26, 27, 28, 29, 30, 31, 32, 33]
      (fun i => [(18, .s (.v (.int .i64 (i : Nat))))])
      (fun i => [(3, nat4 (gimg m a n i)), (4, nat4 (pimg m a i))]) 0 (shape_of fun i => ?_) (by decide) ?_ ?_
    · simp only [List.length_cons, List.length_nil, List.map_cons, List.map_nil, List.nodup_cons, List.nodup_nil, List.mem_cons, Nat.reduceAdd, Nat.reduceEqDiff, or_false, not_false_eq_true, forall_eq_or_imp, forall_eq, or_self, Nat.reduceLT, Nat.reduceLeDiff, and_self, List.forall_mem_cons, List.not_mem_nil, false_implies, implies_true, and_true, true_and, vcOAb26]
    · simp -implicitDefEqProofs (maxSteps := 1000000) (disch := first | exact dz0 | fail) only [vcR, vcT, Int.reduceBEq, Int.reduceBNe, Int.reduceEq, Int.reduceNe, Ab.part, Nat.reduceAdd, Nat.reduceMul, Nat.reduceLeDiff, Nat.reduceEqDiff, Nat.reduceBEq, Nat.reduceBNe, reduceCtorEq, ↓reduceIte, implies_true, forall_const, Int.reduceNeg, Int.reduceToNat, Int.reduceLT, Int.reduceLE, Int.reduceAdd, Int.reduceSub, Int.reduceMul, Int.reducePow, Nat.reducePow, true_or, Option.isNone_some, Option.isNone_none, vcXAb26, Tryd.f27, List.toList_toArray, again_eq]
      try simp
    · intro i us hk
      (repeat (refine X_of _ ?_; simp -implicitDefEqProofs (maxSteps := 1000000) (disch := first | exact dz0 | fail) only [vcR, vcT, Int.reduceBEq, Int.reduceBNe, Int.reduceEq, Int.reduceNe, Ab.part, Nat.reduceAdd, Nat.reduceMul, Nat.reduceLeDiff, Nat.reduceEqDiff, Nat.reduceBEq, Nat.reduceBNe, reduceCtorEq, ↓reduceIte, implies_true, forall_const, Int.reduceNeg, Int.reduceToNat, Int.reduceLT, Int.reduceLE, Int.reduceAdd, Int.reduceSub, Int.reduceMul, Int.reducePow, Nat.reducePow, true_or, Option.isNone_some, Option.isNone_none, vcXAb26, Tryd.f27, List.toList_toArray]))
      refine ⟨fun h => ?_, fun h => ?_⟩
      · have hs := gimg_step hG a n i
        have hp := pimg_step hG a i
        have m1 := mul_e k m (gimg m a n i) (pimg m a i) hG (gimg_lt hG a n i) (pimg_lt hG a i)
        have m2 := mul_e k m (pimg m a i) (pimg m a i) hG (pimg_lt hG a i) (pimg_lt hG a i)
        rw [hp] at m2
        obtain ⟨g, hg⟩ : ∃ g, gimg m a n i = g := ⟨_, rfl⟩
        obtain ⟨g', hg'⟩ : ∃ g, gimg m a n (i + 1) = g := ⟨_, rfl⟩
        obtain ⟨p, hp1⟩ : ∃ g, pimg m a i = g := ⟨_, rfl⟩
        obtain ⟨p', hp1'⟩ : ∃ g, pimg m a (i + 1) = g := ⟨_, rfl⟩
        rw [hg, hp1] at m1
        rw [hp1, hp1'] at m2
        rw [hg, hg', hp1] at hs
        rw [hg, hp1]
        rcases hs with ⟨h3, h4⟩ | ⟨h3, h4⟩
        · have h5 : ((n / 2 ^ i % 2 : Nat) : Int) = 0 := by omega
          clear h1 h2 h3 m1 hp
          (repeat' ((first | with_reducible (first | apply XR_cons | apply XR_consG | apply XR_nil | apply XM_cons | apply XM_consG | apply XM_nil | apply cF_pure (by assumption) | apply cM_pure (by assumption) | apply cF_ev (by assumption) | apply cM_ev (by assumption) | apply cF_pure (bit_n _ _ bd0) | apply cM_pure (bit_n _ _ bd0) | apply cF_pure (len_c _ bd0) | apply cM_pure (len_c _ bd0) | apply cF_ev (from_e _ _ _ bd0 bd0) | apply cM_ev (from_e _ _ _ bd0 bd0) | apply cF_ev (mul_e _ _ _ _ bd0 bd0 bd0) | apply cM_ev (mul_e _ _ _ _ bd0 bd0 bd0) | apply cF_ev (to_e _ _ _ bd0 bd0) | apply cM_ev (to_e _ _ _ bd0 bd0)) | (with_reducible apply X_drawM (id := 1) 6 [] (.cons 6 (.cons 7 (.cons 8 (.cons 9 .nil .nil) .nil) .nil) (.cons 7 (.cons 6 (.cons 8 (.cons 9 .nil .nil) .nil) .nil) .nil)); (next => (kernel_rfl)); (next => (kernel_rfl))) | refine X_of _ ?_ | with_reducible (first | exact ⟨_, rfl⟩ | refine And.intro ?_ ?_ | intro _)) <;> try simp -implicitDefEqProofs (maxSteps := 1000000) (disch := first | exact dz0 | fail) only [vcR, vcT, Int.reduceBEq, Int.reduceBNe, Int.reduceEq, Int.reduceNe, Ab.part, Nat.reduceAdd, Nat.reduceMul, Nat.reduceLeDiff, Nat.reduceEqDiff, Nat.reduceBEq, Nat.reduceBNe, reduceCtorEq, ↓reduceIte, implies_true, forall_const, Int.reduceNeg, Int.reduceToNat, Int.reduceLT, Int.reduceLE, Int.reduceAdd, Int.reduceSub, Int.reduceMul, Int.reducePow, Nat.reducePow, true_or, Option.isNone_some, Option.isNone_none, vcXAb26, Tryd.f27, List.toList_toArray, arr4_zero, nat4_set1, nat4_setL, nat4_set0, h5]))
          refine ⟨i + 1, by omega, ?_⟩
          simp -implicitDefEqProofs (maxSteps := 1000000) (disch := first | exact dz0 | fail) only [vcR, vcT, Int.reduceBEq, Int.reduceBNe, Int.reduceEq, Int.reduceNe, Ab.part, Nat.reduceAdd, Nat.reduceMul, Nat.reduceLeDiff, Nat.reduceEqDiff, Nat.reduceBEq, Nat.reduceBNe, reduceCtorEq, ↓reduceIte, implies_true, forall_const, Int.reduceNeg, Int.reduceToNat, Int.reduceLT, Int.reduceLE, Int.reduceAdd, Int.reduceSub, Int.reduceMul, Int.reducePow, Nat.reducePow, true_or, Option.isNone_some, Option.isNone_none, vcXAb26, Tryd.f27, List.toList_toArray, again_eq,hg',hp1',h4]
          try simp
        · have h5 : ((n / 2 ^ i % 2 : Nat) : Int) = 1 := by omega
          rw [h4] at m1
          clear h1 h2 h3 hp
          (repeat' ((first | with_reducible (first | apply XR_cons | apply XR_consG | apply XR_nil | apply XM_cons | apply XM_consG | apply XM_nil | apply cF_pure (by assumption) | apply cM_pure (by assumption) | apply cF_ev (by assumption) | apply cM_ev (by assumption) | apply cF_pure (bit_n _ _ bd0) | apply cM_pure (bit_n _ _ bd0) | apply cF_pure (len_c _ bd0) | apply cM_pure (len_c _ bd0) | apply cF_ev (from_e _ _ _ bd0 bd0) | apply cM_ev (from_e _ _ _ bd0 bd0) | apply cF_ev (mul_e _ _ _ _ bd0 bd0 bd0) | apply cM_ev (mul_e _ _ _ _ bd0 bd0 bd0) | apply cF_ev (to_e _ _ _ bd0 bd0) | apply cM_ev (to_e _ _ _ bd0 bd0)) | (with_reducible apply X_drawM (id := 1) 6 [] (.cons 6 (.cons 7 (.cons 8 (.cons 9 .nil .nil) .nil) .nil) (.cons 7 (.cons 6 (.cons 8 (.cons 9 .nil .nil) .nil) .nil) .nil)); (next => (kernel_rfl)); (next => (kernel_rfl))) | refine X_of _ ?_ | with_reducible (first | exact ⟨_, rfl⟩ | refine And.intro ?_ ?_ | intro _)) <;> try simp -implicitDefEqProofs (maxSteps := 1000000) (disch := first | exact dz0 | fail) only [vcR, vcT, Int.reduceBEq, Int.reduceBNe, Int.reduceEq, Int.reduceNe, Ab.part, Nat.reduceAdd, Nat.reduceMul, Nat.reduceLeDiff, Nat.reduceEqDiff, Nat.reduceBEq, Nat.reduceBNe, reduceCtorEq, ↓reduceIte, implies_true, forall_const, Int.reduceNeg, Int.reduceToNat, Int.reduceLT, Int.reduceLE, Int.reduceAdd, Int.reduceSub, Int.reduceMul, Int.reducePow, Nat.reducePow, true_or, Option.isNone_some, Option.isNone_none, vcXAb26, Tryd.f27, List.toList_toArray, arr4_zero, nat4_set1, nat4_setL, nat4_set0, h5]))
          refine ⟨i + 1, by omega, ?_⟩
          simp -implicitDefEqProofs (maxSteps := 1000000) (disch := first | exact dz0 | fail) only [vcR, vcT, Int.reduceBEq, Int.reduceBNe, Int.reduceEq, Int.reduceNe, Ab.part, Nat.reduceAdd, Nat.reduceMul, Nat.reduceLeDiff, Nat.reduceEqDiff, Nat.reduceBEq, Nat.reduceBNe, reduceCtorEq, ↓reduceIte, implies_true, forall_const, Int.reduceNeg, Int.reduceToNat, Int.reduceLT, Int.reduceLE, Int.reduceAdd, Int.reduceSub, Int.reduceMul, Int.reducePow, Nat.reducePow, true_or, Option.isNone_some, Option.isNone_none, vcXAb26, Tryd.f27, List.toList_toArray, again_eq,hg',hp1']
          try simp
      · have hk2 : i = blen n := by omega
        subst hk2
        clear h1 h2
        (repeat' ((first | with_reducible (first | apply XR_cons | apply XR_consG | apply XR_nil | apply XM_cons | apply XM_consG | apply XM_nil | apply cF_pure (by assumption) | apply cM_pure (by assumption) | apply cF_ev (by assumption) | apply cM_ev (by assumption) | apply cF_pure (bit_n _ _ bd0) | apply cM_pure (bit_n _ _ bd0) | apply cF_pure (len_c _ bd0) | apply cM_pure (len_c _ bd0) | apply cF_ev (from_e _ _ _ bd0 bd0) | apply cM_ev (from_e _ _ _ bd0 bd0) | apply cF_ev (mul_e _ _ _ _ bd0 bd0 bd0) | apply cM_ev (mul_e _ _ _ _ bd0 bd0 bd0) | apply cF_ev (to_e _ _ _ bd0 bd0) | apply cM_ev (to_e _ _ _ bd0 bd0)) | (with_reducible apply X_drawM (id := 1) 6 [] (.cons 6 (.cons 7 (.cons 8 (.cons 9 .nil .nil) .nil) .nil) (.cons 7 (.cons 6 (.cons 8 (.cons 9 .nil .nil) .nil) .nil) .nil)); (next => (kernel_rfl)); (next => (kernel_rfl))) | refine X_of _ ?_ | with_reducible (first | exact ⟨_, rfl⟩ | refine And.intro ?_ ?_ | intro _)) <;> try simp -implicitDefEqProofs (maxSteps := 1000000) (disch := first | exact dz0 | fail) only [vcR, vcT, Int.reduceBEq, Int.reduceBNe, Int.reduceEq, Int.reduceNe, Ab.part, Nat.reduceAdd, Nat.reduceMul, Nat.reduceLeDiff, Nat.reduceEqDiff, Nat.reduceBEq, Nat.reduceBNe, reduceCtorEq, ↓reduceIte, implies_true, forall_const, Int.reduceNeg, Int.reduceToNat, Int.reduceLT, Int.reduceLE, Int.reduceAdd, Int.reduceSub, Int.reduceMul, Int.reducePow, Nat.reducePow, true_or, Option.isNone_some, Option.isNone_none, vcXAb26, Tryd.f27, List.toList_toArray, arr4_zero, nat4_set1, nat4_setL, nat4_set0]))
end Go.Proofs.YthniflakjkbpiaaDoor
