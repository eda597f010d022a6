/-
  What sortitionref02's functions say: modulo an odd number.
-/
import Derived.Test.YthniflakjkbpiaaAb26
import Derived.Test.YthniflakjkbpiaaKR
import Derived.Test.YthniflakjkbpiaaKL
import Derived.Test.YthniflakjkbpiaaKN
import Derived.Test.YthniflakjkbpiaaKM
namespace Go.Proofs.Ythniflakjkbpiaa
open Go Go.Ab
set_option linter.unusedSimpArgs false
set_option linter.unusedVariables false
set_option linter.defProp false
set_option maxHeartbeats 20000000
set_option maxRecDepth 100000

theorem wd_low_mod2 (m : Nat) : wd m 0 % 2 = m % 2 := by simp only [wd]; omega


theorem rcheck_c (m : Nat) (hm : m < 2 ^ 256) : PureC Try.prog 22 [.agg (nat4 m)] (.s (.v (.int .i64 (chk m)))) := by
  refine pureC_of Try.func22 rfl (by simp only [List.length_cons, List.length_nil, List.map_cons, List.map_nil, List.nodup_cons, List.nodup_nil, List.mem_cons, Nat.reduceAdd, Nat.reduceEqDiff, or_false, not_false_eq_true, forall_eq_or_imp, forall_eq, or_self, Nat.reduceLT, Nat.reduceLeDiff, and_self, List.forall_mem_cons, List.not_mem_nil, false_implies, implies_true, and_true, true_and, vcOAb26]) (by simp only [List.length_cons, List.length_nil, List.map_cons, List.map_nil, List.nodup_cons, List.nodup_nil, List.mem_cons, Nat.reduceAdd, Nat.reduceEqDiff, or_false, not_false_eq_true, forall_eq_or_imp, forall_eq, or_self, Nat.reduceLT, Nat.reduceLeDiff, and_self, List.forall_mem_cons, List.not_mem_nil, false_implies, implies_true, and_true, true_and, vcOAb26]) fun w => ?_
  simp only [List.length_cons, List.length_nil, Try.ntmps22, Nat.reduceAdd, Nat.reduceSub, List.replicate_succ, List.replicate_zero, List.cons_append, List.nil_append]
  have hw := wd_low_mod2 m
  have e0 : litsEq (lits 4 (wd m)) (lits 4 (wd 0)) = decide (m = 0) := litsEq_nat4 hm (by decide)
  have e1 : litsEq (lits 4 (wd m)) (lits 4 (wd 1)) = decide (m = 1) := litsEq_nat4 hm (by decide)
  obtain ⟨r, hr⟩ : ∃ r, chk m = r := ⟨_, rfl⟩
  have hcase : (m = 0 ∧ r = 11) ∨ (m ≠ 0 ∧ m = 1 ∧ r = 11) ∨ (m ≠ 0 ∧ m ≠ 1 ∧ m % 2 = 0 ∧ r = 12) ∨ (m ≠ 0 ∧ m ≠ 1 ∧ m % 2 = 1 ∧ r = 0) := by
    unfold chk at hr
    by_cases h0 : m = 0
    · simp [h0] at hr; simp [h0, hr]
    · by_cases h1 : m = 1
      · simp [h1] at hr; simp [h1, hr]
      · simp [h0, h1] at hr
        by_cases h2 : m % 2 = 0
        · simp [h2] at hr; simp [h0, h1, h2, hr]
        · simp [h2] at hr; simp [h0, h1, hr]; omega
  rw [hr]
  clear hr hm
  rcases hcase with ⟨rfl, rfl⟩ | ⟨h0, h, rfl⟩ | ⟨h0, h1, h, rfl⟩ | ⟨h0, h1, h, rfl⟩
  · simp only [decide_true] at e0
    (repeat' ((first | with_reducible (first | apply XR_cons | apply XR_consG | apply XR_nil | apply cF_pure (by assumption)) | with_reducible (first | apply X_regRS (id := 1) | apply X_regR (id := 1) | apply X_seqX (x := .seq (.region 1 _ false) _) | apply X_seqX (x := .seq (.seq (.region 1 _ false) _) _)) | refine X_of _ ?_ | with_reducible (first | exact ⟨_, rfl⟩ | refine And.intro ?_ ?_ | intro _)) <;> try simp -implicitDefEqProofs (maxSteps := 1000000) (disch := first | exact dz0 | fail) only [vcR, vcT, Int.reduceBEq, Int.reduceBNe, Int.reduceEq, Int.reduceNe, Ab.part, Nat.reduceAdd, Nat.reduceMul, Nat.reduceLeDiff, Nat.reduceEqDiff, Nat.reduceBEq, Nat.reduceBNe, reduceCtorEq, ↓reduceIte, implies_true, forall_const, Int.reduceNeg, Int.reduceToNat, Int.reduceLT, Int.reduceLE, Int.reduceAdd, Int.reduceSub, Int.reduceMul, Int.reducePow, Nat.reducePow, tmodL, tdivL, true_or, Option.isNone_some, Option.isNone_none, vcXAb26, Try.f22, List.toList_toArray, arr4_zero, nat4_set1, nat4_setL, nat4_set0, e0]))
  · simp only [h0, decide_false] at e0
    simp only [h, decide_true] at e1
    subst h
    (repeat' ((first | with_reducible (first | apply XR_cons | apply XR_consG | apply XR_nil | apply cF_pure (by assumption)) | with_reducible (first | apply X_regRS (id := 1) | apply X_regR (id := 1) | apply X_seqX (x := .seq (.region 1 _ false) _) | apply X_seqX (x := .seq (.seq (.region 1 _ false) _) _)) | refine X_of _ ?_ | with_reducible (first | exact ⟨_, rfl⟩ | refine And.intro ?_ ?_ | intro _)) <;> try simp -implicitDefEqProofs (maxSteps := 1000000) (disch := first | exact dz0 | fail) only [vcR, vcT, Int.reduceBEq, Int.reduceBNe, Int.reduceEq, Int.reduceNe, Ab.part, Nat.reduceAdd, Nat.reduceMul, Nat.reduceLeDiff, Nat.reduceEqDiff, Nat.reduceBEq, Nat.reduceBNe, reduceCtorEq, ↓reduceIte, implies_true, forall_const, Int.reduceNeg, Int.reduceToNat, Int.reduceLT, Int.reduceLE, Int.reduceAdd, Int.reduceSub, Int.reduceMul, Int.reducePow, Nat.reducePow, tmodL, tdivL, true_or, Option.isNone_some, Option.isNone_none, vcXAb26, Try.f22, List.toList_toArray, arr4_zero, nat4_set1, nat4_setL, nat4_set0, e0,e1]))
  · simp only [h0, decide_false] at e0
    simp only [h1, decide_false] at e1
    rw [h] at hw
    have h2 : ((wd m 0 % 2 : Nat) : Int) = 0 := by omega
    (repeat' ((first | with_reducible (first | apply XR_cons | apply XR_consG | apply XR_nil | apply cF_pure (by assumption)) | with_reducible (first | apply X_regRS (id := 1) | apply X_regR (id := 1) | apply X_seqX (x := .seq (.region 1 _ false) _) | apply X_seqX (x := .seq (.seq (.region 1 _ false) _) _)) | refine X_of _ ?_ | with_reducible (first | exact ⟨_, rfl⟩ | refine And.intro ?_ ?_ | intro _)) <;> try simp -implicitDefEqProofs (maxSteps := 1000000) (disch := first | exact dz0 | fail) only [vcR, vcT, Int.reduceBEq, Int.reduceBNe, Int.reduceEq, Int.reduceNe, Ab.part, Nat.reduceAdd, Nat.reduceMul, Nat.reduceLeDiff, Nat.reduceEqDiff, Nat.reduceBEq, Nat.reduceBNe, reduceCtorEq, ↓reduceIte, implies_true, forall_const, Int.reduceNeg, Int.reduceToNat, Int.reduceLT, Int.reduceLE, Int.reduceAdd, Int.reduceSub, Int.reduceMul, Int.reducePow, Nat.reducePow, tmodL, tdivL, true_or, Option.isNone_some, Option.isNone_none, vcXAb26, Try.f22, List.toList_toArray, arr4_zero, nat4_set1, nat4_setL, nat4_set0, e0,e1,tmodL,h2]))
  · simp only [h0, decide_false] at e0
    simp only [h1, decide_false] at e1
    rw [h] at hw
    have h2 : ((wd m 0 % 2 : Nat) : Int) = 1 := by omega
    (repeat' ((first | with_reducible (first | apply XR_cons | apply XR_consG | apply XR_nil | apply cF_pure (by assumption)) | with_reducible (first | apply X_regRS (id := 1) | apply X_regR (id := 1) | apply X_seqX (x := .seq (.region 1 _ false) _) | apply X_seqX (x := .seq (.seq (.region 1 _ false) _) _)) | refine X_of _ ?_ | with_reducible (first | exact ⟨_, rfl⟩ | refine And.intro ?_ ?_ | intro _)) <;> try simp -implicitDefEqProofs (maxSteps := 1000000) (disch := first | exact dz0 | fail) only [vcR, vcT, Int.reduceBEq, Int.reduceBNe, Int.reduceEq, Int.reduceNe, Ab.part, Nat.reduceAdd, Nat.reduceMul, Nat.reduceLeDiff, Nat.reduceEqDiff, Nat.reduceBEq, Nat.reduceBNe, reduceCtorEq, ↓reduceIte, implies_true, forall_const, Int.reduceNeg, Int.reduceToNat, Int.reduceLT, Int.reduceLE, Int.reduceAdd, Int.reduceSub, Int.reduceMul, Int.reducePow, Nat.reducePow, tmodL, tdivL, true_or, Option.isNone_some, Option.isNone_none, vcXAb26, Try.f22, List.toList_toArray, arr4_zero, nat4_set1, nat4_setL, nat4_set0, e0,e1,tmodL,h2]))


theorem rmtimes_c (m x y : Nat) (h0 : 0 < m) (hm : m < 2 ^ 256) (hx : x < 2 ^ 256) (hy : y < 2 ^ 256) : PureC Try.prog 35 [.agg (nat4 m), .agg (nat4 x), .agg (nat4 y)] (.agg (nat4 (x * y % m))) := by
  refine pureC_of Try.func35 rfl (by simp only [List.length_cons, List.length_nil, List.map_cons, List.map_nil, List.nodup_cons, List.nodup_nil, List.mem_cons, Nat.reduceAdd, Nat.reduceEqDiff, or_false, not_false_eq_true, forall_eq_or_imp, forall_eq, or_self, Nat.reduceLT, Nat.reduceLeDiff, and_self, List.forall_mem_cons, List.not_mem_nil, false_implies, implies_true, and_true, true_and, vcOAb26]) (by simp only [List.length_cons, List.length_nil, List.map_cons, List.map_nil, List.nodup_cons, List.nodup_nil, List.mem_cons, Nat.reduceAdd, Nat.reduceEqDiff, or_false, not_false_eq_true, forall_eq_or_imp, forall_eq, or_self, Nat.reduceLT, Nat.reduceLeDiff, and_self, List.forall_mem_cons, List.not_mem_nil, false_implies, implies_true, and_true, true_and, vcOAb26]) fun w => ?_
  simp only [List.length_cons, List.length_nil, Try.ntmps35, Nat.reduceAdd, Nat.reduceSub, List.replicate_succ, List.replicate_zero, List.cons_append, List.nil_append]
  (repeat' ((first | with_reducible (first | apply XR_cons | apply XR_consG | apply XR_nil | apply XM_cons | apply XM_consG | apply XM_nil | apply cF_pure (by assumption) | apply cM_pure (by assumption) | apply cF_pure (rmul_c _ _ bd0 bd0) | apply cM_pure (rmul_c _ _ bd0 bd0) | apply cF_pure (rrem_c _ _ bd0 bd0 bd0) | apply cM_pure (rrem_c _ _ bd0 bd0 bd0)) | (with_reducible apply X_drawM (id := 1) 8 [] (.cons 8 (.cons 9 (.cons 10 .nil .nil) .nil) .nil); (next => (kernel_rfl)); (next => (kernel_rfl))) | refine X_of _ ?_ | with_reducible (first | exact ⟨_, rfl⟩ | refine And.intro ?_ ?_ | intro _)) <;> try simp -implicitDefEqProofs (maxSteps := 1000000) (disch := first | exact dz0 | fail) only [vcR, vcT, Int.reduceBEq, Int.reduceBNe, Int.reduceEq, Int.reduceNe, Ab.part, Nat.reduceAdd, Nat.reduceMul, Nat.reduceLeDiff, Nat.reduceEqDiff, Nat.reduceBEq, Nat.reduceBNe, reduceCtorEq, ↓reduceIte, implies_true, forall_const, Int.reduceNeg, Int.reduceToNat, Int.reduceLT, Int.reduceLE, Int.reduceAdd, Int.reduceSub, Int.reduceMul, Int.reducePow, Nat.reducePow, tmodL, tdivL, true_or, Option.isNone_some, Option.isNone_none, vcXAb26, Try.f35, List.toList_toArray, arr4_zero, nat4_set1, nat4_setL, nat4_set0]))


theorem rmplus_c (m x y : Nat) (h0 : 0 < m) (hm : m < 2 ^ 256) (hx : x < 2 ^ 256) (hy : y < 2 ^ 256) : PureC Try.prog 36 [.agg (nat4 m), .agg (nat4 x), .agg (nat4 y)] (.agg (nat4 ((x + y) % m))) := by
  refine pureC_of Try.func36 rfl (by simp only [List.length_cons, List.length_nil, List.map_cons, List.map_nil, List.nodup_cons, List.nodup_nil, List.mem_cons, Nat.reduceAdd, Nat.reduceEqDiff, or_false, not_false_eq_true, forall_eq_or_imp, forall_eq, or_self, Nat.reduceLT, Nat.reduceLeDiff, and_self, List.forall_mem_cons, List.not_mem_nil, false_implies, implies_true, and_true, true_and, vcOAb26]) (by simp only [List.length_cons, List.length_nil, List.map_cons, List.map_nil, List.nodup_cons, List.nodup_nil, List.mem_cons, Nat.reduceAdd, Nat.reduceEqDiff, or_false, not_false_eq_true, forall_eq_or_imp, forall_eq, or_self, Nat.reduceLT, Nat.reduceLeDiff, and_self, List.forall_mem_cons, List.not_mem_nil, false_implies, implies_true, and_true, true_and, vcOAb26]) fun w => ?_
  simp only [List.length_cons, List.length_nil, Try.ntmps36, Nat.reduceAdd, Nat.reduceSub, List.replicate_succ, List.replicate_zero, List.cons_append, List.nil_append]
  (repeat' ((first | with_reducible (first | apply XR_cons | apply XR_consG | apply XR_nil | apply XM_cons | apply XM_consG | apply XM_nil | apply cF_pure (by assumption) | apply cM_pure (by assumption) | apply cF_pure (rlow_c _) | apply cM_pure (rlow_c _) | apply cF_pure (rnat_c _ bd0) | apply cM_pure (rnat_c _ bd0) | apply cF_pure (rplus_c _ _) | apply cM_pure (rplus_c _ _) | apply cF_pure (rrest_c _ _ bd0 bd0 bd0) | apply cM_pure (rrest_c _ _ bd0 bd0 bd0)) | (with_reducible apply X_drawM (id := 1) 11 [] (.cons 11 (.cons 12 (.cons 13 (.cons 14 .nil .nil) .nil) .nil) (.cons 12 (.cons 11 (.cons 13 (.cons 14 .nil .nil) .nil) .nil) .nil)); (next => (kernel_rfl)); (next => (kernel_rfl))) | refine X_of _ ?_ | with_reducible (first | exact ⟨_, rfl⟩ | refine And.intro ?_ ?_ | intro _)) <;> try simp -implicitDefEqProofs (maxSteps := 1000000) (disch := first | exact dz0 | fail) only [vcR, vcT, Int.reduceBEq, Int.reduceBNe, Int.reduceEq, Int.reduceNe, Ab.part, Nat.reduceAdd, Nat.reduceMul, Nat.reduceLeDiff, Nat.reduceEqDiff, Nat.reduceBEq, Nat.reduceBNe, reduceCtorEq, ↓reduceIte, implies_true, forall_const, Int.reduceNeg, Int.reduceToNat, Int.reduceLT, Int.reduceLE, Int.reduceAdd, Int.reduceSub, Int.reduceMul, Int.reducePow, Nat.reducePow, tmodL, tdivL, true_or, Option.isNone_some, Option.isNone_none, vcXAb26, Try.f36, List.toList_toArray, arr4_zero, nat4_set1, nat4_setL, nat4_set0]))

/-- A difference modulo m. -/
def msub (m x y : Nat) : Nat := (x % m + (m - y % m)) % m

theorem rmminus_c (m x y : Nat) (h0 : 0 < m) (hm : m < 2 ^ 256) (hx : x < 2 ^ 256) (hy : y < 2 ^ 256) : PureC Try.prog 37 [.agg (nat4 m), .agg (nat4 x), .agg (nat4 y)] (.agg (nat4 (msub m x y))) := by
  refine pureC_of Try.func37 rfl (by simp only [List.length_cons, List.length_nil, List.map_cons, List.map_nil, List.nodup_cons, List.nodup_nil, List.mem_cons, Nat.reduceAdd, Nat.reduceEqDiff, or_false, not_false_eq_true, forall_eq_or_imp, forall_eq, or_self, Nat.reduceLT, Nat.reduceLeDiff, and_self, List.forall_mem_cons, List.not_mem_nil, false_implies, implies_true, and_true, true_and, vcOAb26]) (by simp only [List.length_cons, List.length_nil, List.map_cons, List.map_nil, List.nodup_cons, List.nodup_nil, List.mem_cons, Nat.reduceAdd, Nat.reduceEqDiff, or_false, not_false_eq_true, forall_eq_or_imp, forall_eq, or_self, Nat.reduceLT, Nat.reduceLeDiff, and_self, List.forall_mem_cons, List.not_mem_nil, false_implies, implies_true, and_true, true_and, vcOAb26]) fun w => ?_
  simp only [List.length_cons, List.length_nil, Try.ntmps37, Nat.reduceAdd, Nat.reduceSub, List.replicate_succ, List.replicate_zero, List.cons_append, List.nil_append]
  have hxl : x % m < 2 ^ 256 := Nat.lt_trans (Nat.mod_lt _ h0) hm
  have hyl := Nat.mod_lt y h0
  have hl := rless_0 (x % m + m) (y % m) (x % m + (m - y % m)) (lt512_add hxl hm) (lt512 (Nat.lt_trans hyl hm)) (lt512_add hxl (by omega)) (by omega)
  have hr := rrest_c (x % m + (m - y % m)) m (lt512_add hxl (by omega)) hm h0
  have hyl' : y % m < 2 ^ 256 := Nat.lt_trans hyl hm
  (repeat' ((first | with_reducible (first | apply XR_cons | apply XR_consG | apply XR_nil | apply XM_cons | apply XM_consG | apply XM_nil | apply cF_pure (hl) | apply cM_pure (hl) | apply cF_pure (hr) | apply cM_pure (hr) | apply cF_pure (by assumption) | apply cM_pure (by assumption) | apply cF_pure (rdiv_c _ _ bd0 bd0 bd0) | apply cM_pure (rdiv_c _ _ bd0 bd0 bd0) | apply cF_pure (rlow_c _) | apply cM_pure (rlow_c _) | apply cF_pure (rnat_c _ bd0) | apply cM_pure (rnat_c _ bd0) | apply cF_pure (rplus_c _ _) | apply cM_pure (rplus_c _ _)) | with_reducible (first | apply X_regRS (id := 1) | apply X_regR (id := 1) | apply X_seqX (x := .seq (.region 1 _ false) _) | apply X_seqX (x := .seq (.seq (.region 1 _ false) _) _) | apply X_regRS (id := 2) | apply X_regR (id := 2) | apply X_seqX (x := .seq (.region 2 _ false) _) | apply X_seqX (x := .seq (.seq (.region 2 _ false) _) _)) | (with_reducible apply X_drawM (id := 3) 11 [] (.cons 11 (.cons 12 (.cons 13 .nil .nil) .nil) .nil); (next => (kernel_rfl)); (next => (kernel_rfl))) | (with_reducible apply X_drawM (id := 4) 7 [] (.cons 7 (.cons 8 (.cons 9 (.cons 10 .nil .nil) .nil) .nil) (.cons 8 (.cons 7 (.cons 9 (.cons 10 .nil .nil) .nil) .nil) .nil)); (next => (kernel_rfl)); (next => (kernel_rfl))) | refine X_of _ ?_ | with_reducible (first | exact ⟨_, rfl⟩ | refine And.intro ?_ ?_ | intro _)) <;> try simp -implicitDefEqProofs (maxSteps := 1000000) (disch := first | exact dz0 | fail) only [vcR, vcT, Int.reduceBEq, Int.reduceBNe, Int.reduceEq, Int.reduceNe, Ab.part, Nat.reduceAdd, Nat.reduceMul, Nat.reduceLeDiff, Nat.reduceEqDiff, Nat.reduceBEq, Nat.reduceBNe, reduceCtorEq, ↓reduceIte, implies_true, forall_const, Int.reduceNeg, Int.reduceToNat, Int.reduceLT, Int.reduceLE, Int.reduceAdd, Int.reduceSub, Int.reduceMul, Int.reducePow, Nat.reducePow, tmodL, tdivL, true_or, Option.isNone_some, Option.isNone_none, vcXAb26, Try.f37, List.toList_toArray, arr4_zero, nat4_set1, nat4_setL, nat4_set0]))
  all_goals rfl
end Go.Proofs.Ythniflakjkbpiaa
