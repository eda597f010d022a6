/-
  mont.New; the images; every method, told of any Mod.
-/
import Derived.Test.YthniflakjkbpiaaDoorAb26
import Derived.Test.YthniflakjkbpiaaDoorM5
import Derived.Test.YthniflakjkbpiaaDoorKM
import Derived.Test.YthniflakjkbpiaaDoorR1
import Derived.Test.YthniflakjkbpiaaDoorKB
namespace Go.Proofs.YthniflakjkbpiaaDoor
open Go Go.Ab
set_option linter.unusedSimpArgs false
set_option linter.unusedVariables false
set_option linter.defProp false
set_option maxHeartbeats 20000000
set_option maxRecDepth 100000


theorem to_o (m : Nat) (b : Bool) (x : Nat) (hG : OddM m) (hx : x < 2 ^ 256) :
    OwnC Tryd.prog 43 [.s (.p 0 0), .agg (nat4 x)] [⟨86, modS m b⟩] [⟨86, modc m 1 0 (mi m) (sqm m)⟩] (.agg (nat4 (img m x))) := by
  have h1 := ready_o m b hG
  have h2 := mul_o m true x (sqm m) hG hx hG.sq_lt
  rw [modS_true, mo_sq hG] at h2
  clear hG hx
  (refine own_of Tryd.func43 rfl (by simp only [List.length_cons, List.length_nil, List.map_cons, List.map_nil, List.nodup_cons, List.nodup_nil, List.mem_cons, Nat.reduceAdd, Nat.reduceEqDiff, or_false, not_false_eq_true, forall_eq_or_imp, forall_eq, or_self, Nat.reduceLT, Nat.reduceLeDiff, and_self, List.forall_mem_cons, List.not_mem_nil, false_implies, implies_true, and_true, true_and, vcOAb26]) (by simp only [List.length_cons, List.length_nil, List.map_cons, List.map_nil, List.nodup_cons, List.nodup_nil, List.mem_cons, Nat.reduceAdd, Nat.reduceEqDiff, or_false, not_false_eq_true, forall_eq_or_imp, forall_eq, or_self, Nat.reduceLT, Nat.reduceLeDiff, and_self, List.forall_mem_cons, List.not_mem_nil, false_implies, implies_true, and_true, true_and, vcOAb26]) (by simp only [List.length_cons, List.length_nil, List.map_cons, List.map_nil, List.nodup_cons, List.nodup_nil, List.mem_cons, Nat.reduceAdd, Nat.reduceEqDiff, or_false, not_false_eq_true, forall_eq_or_imp, forall_eq, or_self, Nat.reduceLT, Nat.reduceLeDiff, and_self, List.forall_mem_cons, List.not_mem_nil, false_implies, implies_true, and_true, true_and, vcOAb26]) (by simp only [List.length_cons, List.length_nil, List.map_cons, List.map_nil, List.nodup_cons, List.nodup_nil, List.mem_cons, Nat.reduceAdd, Nat.reduceEqDiff, or_false, not_false_eq_true, forall_eq_or_imp, forall_eq, or_self, Nat.reduceLT, Nat.reduceLeDiff, and_self, List.forall_mem_cons, List.not_mem_nil, false_implies, implies_true, and_true, true_and, vcOAb26]) rfl fun w0 β0 => ?_; simp only [List.length_cons, List.length_nil, Tryd.ntmps43, Nat.reduceAdd, Nat.reduceSub, List.replicate_succ, List.replicate_zero, List.cons_append, List.nil_append])
  (repeat' ((first | with_reducible (first | apply XQ_cons | apply XQ_consG | apply XQ_nil | apply XR_cons | apply XR_consG | apply XR_nil | apply cF_pure (by assumption) | apply cV_pure (by assumption) | apply cF_ev (by assumption) | apply cV_ev (by assumption) | apply cF_own (by assumption) | apply cV_own (by assumption) | apply cF_ev (mul_e _ _ _ _ bd0 bd0 bd0) | apply cV_ev (mul_e _ _ _ _ bd0 bd0 bd0)) | ((with_reducible apply cF_new (by assumption)); (first | rintro _ _ ⟨rfl, rfl⟩ | rintro _ _ ⟨_, _, rfl, rfl⟩)) | (with_reducible apply X_drawC (id := 2) 7; (next => (kernel_rfl)); (next => (kernel_rfl))) | refine X_of _ ?_ | with_reducible (first | exact ⟨_, rfl⟩ | refine And.intro ?_ ?_ | intro _)) <;> try simp -implicitDefEqProofs (maxSteps := 1000000) (disch := first | exact dz0 | fail) only [vcR, vcT, Int.reduceBEq, Int.reduceBNe, Int.reduceEq, Int.reduceNe, Ab.part, Nat.reduceAdd, Nat.reduceMul, Nat.reduceLeDiff, Nat.reduceEqDiff, Nat.reduceBEq, Nat.reduceBNe, reduceCtorEq, ↓reduceIte, implies_true, forall_const, Int.reduceNeg, Int.reduceToNat, Int.reduceLT, Int.reduceLE, Int.reduceAdd, Int.reduceSub, Int.reduceMul, Int.reducePow, Nat.reducePow, true_or, Option.isNone_some, Option.isNone_none, vcXAb26, Tryd.f43, List.toList_toArray, arr4_zero, nat4_set1, nat4_setL, nat4_set0]))


theorem from_o (m : Nat) (b : Bool) (x : Nat) (hG : OddM m) (hx : x < 2 ^ 256) :
    OwnC Tryd.prog 47 [.s (.p 0 0), .agg (nat4 x)] [⟨86, modS m b⟩] [⟨86, modc m 1 0 (mi m) (sqm m)⟩] (.agg (nat4 (mo m x))) := by
  have h2 := mul_o m b x 1 hG hx (by decide)
  rw [Nat.mul_one] at h2
  clear hG hx
  (refine own_of Tryd.func47 rfl (by simp only [List.length_cons, List.length_nil, List.map_cons, List.map_nil, List.nodup_cons, List.nodup_nil, List.mem_cons, Nat.reduceAdd, Nat.reduceEqDiff, or_false, not_false_eq_true, forall_eq_or_imp, forall_eq, or_self, Nat.reduceLT, Nat.reduceLeDiff, and_self, List.forall_mem_cons, List.not_mem_nil, false_implies, implies_true, and_true, true_and, vcOAb26]) (by simp only [List.length_cons, List.length_nil, List.map_cons, List.map_nil, List.nodup_cons, List.nodup_nil, List.mem_cons, Nat.reduceAdd, Nat.reduceEqDiff, or_false, not_false_eq_true, forall_eq_or_imp, forall_eq, or_self, Nat.reduceLT, Nat.reduceLeDiff, and_self, List.forall_mem_cons, List.not_mem_nil, false_implies, implies_true, and_true, true_and, vcOAb26]) (by simp only [List.length_cons, List.length_nil, List.map_cons, List.map_nil, List.nodup_cons, List.nodup_nil, List.mem_cons, Nat.reduceAdd, Nat.reduceEqDiff, or_false, not_false_eq_true, forall_eq_or_imp, forall_eq, or_self, Nat.reduceLT, Nat.reduceLeDiff, and_self, List.forall_mem_cons, List.not_mem_nil, false_implies, implies_true, and_true, true_and, vcOAb26]) (by simp only [List.length_cons, List.length_nil, List.map_cons, List.map_nil, List.nodup_cons, List.nodup_nil, List.mem_cons, Nat.reduceAdd, Nat.reduceEqDiff, or_false, not_false_eq_true, forall_eq_or_imp, forall_eq, or_self, Nat.reduceLT, Nat.reduceLeDiff, and_self, List.forall_mem_cons, List.not_mem_nil, false_implies, implies_true, and_true, true_and, vcOAb26]) rfl fun w0 β0 => ?_; simp only [List.length_cons, List.length_nil, Tryd.ntmps47, Nat.reduceAdd, Nat.reduceSub, List.replicate_succ, List.replicate_zero, List.cons_append, List.nil_append])
  (repeat' ((first | with_reducible (first | apply cF_pure (by assumption) | apply cF_ev (by assumption) | apply cF_own (by assumption) | apply cF_ev (mul_e _ _ _ _ bd0 bd0 bd0)) | ((with_reducible apply cF_new (by assumption)); (first | rintro _ _ ⟨rfl, rfl⟩ | rintro _ _ ⟨_, _, rfl, rfl⟩)) | refine X_of _ ?_ | with_reducible (first | exact ⟨_, rfl⟩ | refine And.intro ?_ ?_ | intro _)) <;> try simp -implicitDefEqProofs (maxSteps := 1000000) (disch := first | exact dz0 | fail) only [vcR, vcT, Int.reduceBEq, Int.reduceBNe, Int.reduceEq, Int.reduceNe, Ab.part, Nat.reduceAdd, Nat.reduceMul, Nat.reduceLeDiff, Nat.reduceEqDiff, Nat.reduceBEq, Nat.reduceBNe, reduceCtorEq, ↓reduceIte, implies_true, forall_const, Int.reduceNeg, Int.reduceToNat, Int.reduceLT, Int.reduceLE, Int.reduceAdd, Int.reduceSub, Int.reduceMul, Int.reducePow, Nat.reducePow, true_or, Option.isNone_some, Option.isNone_none, vcXAb26, Tryd.f47, List.toList_toArray, arr4_zero, nat4_set1, nat4_setL, nat4_set0]))

theorem wd_low_odd (m : Nat) : wd m 0 % 2 = m % 2 := by simp only [wd]; omega

theorem new_bad (m : Nat) (hm : m < 2 ^ 256) (h : ¬ OddM m) : PureC Tryd.prog 26 [.agg (nat4 m)] (.tup [.s (.v (.pointer none)), .s (.v (.int .i64 (chk m)))]) := by
  have hw := wd_low_odd m
  have e0 : litsEq (lits 4 (wd m)) (lits 4 (wd 0)) = decide (m = 0) := litsEq_nat4 hm (by decide)
  have e1 : litsEq (lits 4 (wd m)) (lits 4 (wd 1)) = decide (m = 1) := litsEq_nat4 hm (by decide)
  have hb : bits .and .u64 ((wd m 0 : Nat) : Int) 1 = ((wd m 0 % 2 : Nat) : Int) := andOne _ (wd_lt m 0)
  obtain ⟨r, hr⟩ : ∃ r, chk m = r := ⟨_, rfl⟩
  have hcase : (m = 0 ∧ r = 11) ∨ (m ≠ 0 ∧ m = 1 ∧ r = 11) ∨ (m ≠ 0 ∧ m ≠ 1 ∧ m % 2 = 0 ∧ r = 12) := by
    by_cases h0 : m = 0
    · simp [chk, h0] at hr; simp [h0, hr]
    · by_cases h1 : m = 1
      · simp [chk, h1] at hr; simp [h1, hr]
      · by_cases h2 : m % 2 = 0
        · simp [chk, h0, h1, h2] at hr; simp [h0, h1, h2, hr]
        · exact absurd ⟨hm, by omega, by omega⟩ h
  rw [hr]
  clear hr hm h
  refine pureC_of Tryd.func26 rfl (by simp only [List.length_cons, List.length_nil, List.map_cons, List.map_nil, List.nodup_cons, List.nodup_nil, List.mem_cons, Nat.reduceAdd, Nat.reduceEqDiff, or_false, not_false_eq_true, forall_eq_or_imp, forall_eq, or_self, Nat.reduceLT, Nat.reduceLeDiff, and_self, List.forall_mem_cons, List.not_mem_nil, false_implies, implies_true, and_true, true_and, vcOAb26]) (by simp only [List.length_cons, List.length_nil, List.map_cons, List.map_nil, List.nodup_cons, List.nodup_nil, List.mem_cons, Nat.reduceAdd, Nat.reduceEqDiff, or_false, not_false_eq_true, forall_eq_or_imp, forall_eq, or_self, Nat.reduceLT, Nat.reduceLeDiff, and_self, List.forall_mem_cons, List.not_mem_nil, false_implies, implies_true, and_true, true_and, vcOAb26]) fun w => ?_
  simp only [List.length_cons, List.length_nil, Tryd.ntmps26, Nat.reduceAdd, Nat.reduceSub, List.replicate_succ, List.replicate_zero, List.cons_append, List.nil_append]
  rcases hcase with ⟨rfl, rfl⟩ | ⟨h0, h, rfl⟩ | ⟨h0, h1, h, rfl⟩
  · simp only [decide_true] at e0
    (repeat' ((first | with_reducible (first | apply XR_cons | apply XR_consG | apply XR_nil | apply cF_pure (by assumption) | apply cF_ev (by assumption) | apply cF_own (by assumption)) | ((with_reducible apply cF_new (by assumption)); (first | rintro _ _ ⟨rfl, rfl⟩ | rintro _ _ ⟨_, _, rfl, rfl⟩)) | with_reducible (first | apply X_regRS (id := 1) | apply X_regR (id := 1) | apply X_seqX (x := .seq (.region 1 _ false) _) | apply X_seqX (x := .seq (.seq (.region 1 _ false) _) _)) | refine X_of _ ?_ | with_reducible (first | exact ⟨_, rfl⟩ | refine And.intro ?_ ?_ | intro _)) <;> try simp -implicitDefEqProofs (maxSteps := 1000000) (disch := first | exact dz0 | fail) only [vcR, vcT, Int.reduceBEq, Int.reduceBNe, Int.reduceEq, Int.reduceNe, Ab.part, Nat.reduceAdd, Nat.reduceMul, Nat.reduceLeDiff, Nat.reduceEqDiff, Nat.reduceBEq, Nat.reduceBNe, reduceCtorEq, ↓reduceIte, implies_true, forall_const, Int.reduceNeg, Int.reduceToNat, Int.reduceLT, Int.reduceLE, Int.reduceAdd, Int.reduceSub, Int.reduceMul, Int.reducePow, Nat.reducePow, true_or, Option.isNone_some, Option.isNone_none, vcXAb26, Tryd.f26, List.toList_toArray, arr4_zero, nat4_set1, nat4_setL, nat4_set0, e0]))
  · simp only [h0, decide_false] at e0
    simp only [h, decide_true] at e1
    subst h
    (repeat' ((first | with_reducible (first | apply XR_cons | apply XR_consG | apply XR_nil | apply cF_pure (by assumption) | apply cF_ev (by assumption) | apply cF_own (by assumption)) | ((with_reducible apply cF_new (by assumption)); (first | rintro _ _ ⟨rfl, rfl⟩ | rintro _ _ ⟨_, _, rfl, rfl⟩)) | with_reducible (first | apply X_regRS (id := 1) | apply X_regR (id := 1) | apply X_seqX (x := .seq (.region 1 _ false) _) | apply X_seqX (x := .seq (.seq (.region 1 _ false) _) _)) | refine X_of _ ?_ | with_reducible (first | exact ⟨_, rfl⟩ | refine And.intro ?_ ?_ | intro _)) <;> try simp -implicitDefEqProofs (maxSteps := 1000000) (disch := first | exact dz0 | fail) only [vcR, vcT, Int.reduceBEq, Int.reduceBNe, Int.reduceEq, Int.reduceNe, Ab.part, Nat.reduceAdd, Nat.reduceMul, Nat.reduceLeDiff, Nat.reduceEqDiff, Nat.reduceBEq, Nat.reduceBNe, reduceCtorEq, ↓reduceIte, implies_true, forall_const, Int.reduceNeg, Int.reduceToNat, Int.reduceLT, Int.reduceLE, Int.reduceAdd, Int.reduceSub, Int.reduceMul, Int.reducePow, Nat.reducePow, true_or, Option.isNone_some, Option.isNone_none, vcXAb26, Tryd.f26, List.toList_toArray, arr4_zero, nat4_set1, nat4_setL, nat4_set0, e0,e1]))
  · simp only [h0, decide_false] at e0
    simp only [h1, decide_false] at e1
    rw [h] at hw
    have h2 : ((wd m 0 % 2 : Nat) : Int) = 0 := by omega
    (repeat' ((first | with_reducible (first | apply XR_cons | apply XR_consG | apply XR_nil | apply cF_pure (by assumption) | apply cF_ev (by assumption) | apply cF_own (by assumption)) | ((with_reducible apply cF_new (by assumption)); (first | rintro _ _ ⟨rfl, rfl⟩ | rintro _ _ ⟨_, _, rfl, rfl⟩)) | with_reducible (first | apply X_regRS (id := 1) | apply X_regR (id := 1) | apply X_seqX (x := .seq (.region 1 _ false) _) | apply X_seqX (x := .seq (.seq (.region 1 _ false) _) _)) | refine X_of _ ?_ | with_reducible (first | exact ⟨_, rfl⟩ | refine And.intro ?_ ?_ | intro _)) <;> try simp -implicitDefEqProofs (maxSteps := 1000000) (disch := first | exact dz0 | fail) only [vcR, vcT, Int.reduceBEq, Int.reduceBNe, Int.reduceEq, Int.reduceNe, Ab.part, Nat.reduceAdd, Nat.reduceMul, Nat.reduceLeDiff, Nat.reduceEqDiff, Nat.reduceBEq, Nat.reduceBNe, reduceCtorEq, ↓reduceIte, implies_true, forall_const, Int.reduceNeg, Int.reduceToNat, Int.reduceLT, Int.reduceLE, Int.reduceAdd, Int.reduceSub, Int.reduceMul, Int.reducePow, Nat.reducePow, true_or, Option.isNone_some, Option.isNone_none, vcXAb26, Tryd.f26, List.toList_toArray, arr4_zero, nat4_set1, nat4_setL, nat4_set0, e0,e1,hb,h2]))
theorem new_good (m : Nat) (hG : OddM m) : NewC Tryd.prog 26 [.agg (nat4 m)] (fun v H => v = .tup [.s (.p 0 0), .s (.v (.int .i64 0))] ∧ H = [⟨86, modS m false⟩]) := by
  have hw := wd_low_odd m
  have h1 := hG.odd
  have h0 := hG.gt
  have e0 : litsEq (lits 4 (wd m)) (lits 4 (wd 0)) = decide (m = 0) := litsEq_nat4 hG.lt (by decide)
  have e1 : litsEq (lits 4 (wd m)) (lits 4 (wd 1)) = decide (m = 1) := litsEq_nat4 hG.lt (by decide)
  have hb : bits .and .u64 ((wd m 0 : Nat) : Int) 1 = ((wd m 0 % 2 : Nat) : Int) := andOne _ (wd_lt m 0)
  simp only [show m ≠ 0 by omega, decide_false] at e0
  simp only [show m ≠ 1 by omega, decide_false] at e1
  rw [h1] at hw
  have h2 : ((wd m 0 % 2 : Nat) : Int) = 1 := by omega
  clear hG h0 h1
  (refine newC_of Tryd.func26 rfl (by simp only [List.length_cons, List.length_nil, List.map_cons, List.map_nil, List.nodup_cons, List.nodup_nil, List.mem_cons, Nat.reduceAdd, Nat.reduceEqDiff, or_false, not_false_eq_true, forall_eq_or_imp, forall_eq, or_self, Nat.reduceLT, Nat.reduceLeDiff, and_self, List.forall_mem_cons, List.not_mem_nil, false_implies, implies_true, and_true, true_and, vcOAb26]) fun w => ?_; simp only [List.length_cons, List.length_nil, Tryd.ntmps26, Nat.reduceAdd, Nat.reduceSub, List.replicate_succ, List.replicate_zero, List.cons_append, List.nil_append])
  (repeat' ((first | with_reducible (first | apply XR_cons | apply XR_consG | apply XR_nil | apply cF_pure (by assumption) | apply cF_ev (by assumption) | apply cF_own (by assumption)) | ((with_reducible apply cF_new (by assumption)); (first | rintro _ _ ⟨rfl, rfl⟩ | rintro _ _ ⟨_, _, rfl, rfl⟩)) | with_reducible (first | apply X_regRS (id := 1) | apply X_regR (id := 1) | apply X_seqX (x := .seq (.region 1 _ false) _) | apply X_seqX (x := .seq (.seq (.region 1 _ false) _) _)) | refine X_of _ ?_ | with_reducible (first | exact ⟨_, rfl⟩ | refine And.intro ?_ ?_ | intro _)) <;> try simp -implicitDefEqProofs (maxSteps := 1000000) (disch := first | exact dz0 | fail) only [vcR, vcT, Int.reduceBEq, Int.reduceBNe, Int.reduceEq, Int.reduceNe, Ab.part, Nat.reduceAdd, Nat.reduceMul, Nat.reduceLeDiff, Nat.reduceEqDiff, Nat.reduceBEq, Nat.reduceBNe, reduceCtorEq, ↓reduceIte, implies_true, forall_const, Int.reduceNeg, Int.reduceToNat, Int.reduceLT, Int.reduceLE, Int.reduceAdd, Int.reduceSub, Int.reduceMul, Int.reducePow, Nat.reducePow, true_or, Option.isNone_some, Option.isNone_none, vcXAb26, Tryd.f26, List.toList_toArray, arr4_zero, nat4_set1, nat4_setL, nat4_set0, e0,e1,hb,h2]))
  exact ⟨[1], _, _, ⟨rfl, rfl⟩, by decide, rfl, by simp only [List.length_cons, List.length_nil, List.map_cons, List.map_nil, List.nodup_cons, List.nodup_nil, List.mem_cons, Nat.reduceAdd, Nat.reduceEqDiff, or_false, not_false_eq_true, forall_eq_or_imp, forall_eq, or_self, Nat.reduceLT, Nat.reduceLeDiff, and_self, List.forall_mem_cons, List.not_mem_nil, false_implies, implies_true, and_true, true_and, vcOAb26], ⟨rfl, trivial⟩, by simp only [List.mem_singleton, forall_eq]; exact modS_ok⟩

/-! Tryd# Of any Mod -/
theorem to_e (k m x : Nat) (hG : OddM m) (hx : x < 2 ^ 256) : EvC (modEvo 86) Tryd.prog 43 [.s (.v (.pointer (some ⟨k, 0, none⟩))), .agg (nat4 x)] (isMod 86 k m) (.agg (nat4 (img m x))) :=
  OwnC.mod (by simp only [List.length_cons, List.length_nil, List.map_cons, List.map_nil, List.nodup_cons, List.nodup_nil, List.mem_cons, Nat.reduceAdd, Nat.reduceEqDiff, or_false, not_false_eq_true, forall_eq_or_imp, forall_eq, or_self, Nat.reduceLT, Nat.reduceLeDiff, and_self, List.forall_mem_cons, List.not_mem_nil, false_implies, implies_true, and_true, true_and, vcOAb26]) fun _ b => ⟨true, to_o m b x hG hx⟩
theorem from_e (k m x : Nat) (hG : OddM m) (hx : x < 2 ^ 256) : EvC (modEvo 86) Tryd.prog 47 [.s (.v (.pointer (some ⟨k, 0, none⟩))), .agg (nat4 x)] (isMod 86 k m) (.agg (nat4 (mo m x))) :=
  OwnC.mod (by simp only [List.length_cons, List.length_nil, List.map_cons, List.map_nil, List.nodup_cons, List.nodup_nil, List.mem_cons, Nat.reduceAdd, Nat.reduceEqDiff, or_false, not_false_eq_true, forall_eq_or_imp, forall_eq, or_self, Nat.reduceLT, Nat.reduceLeDiff, and_self, List.forall_mem_cons, List.not_mem_nil, false_implies, implies_true, and_true, true_and, vcOAb26]) fun _ b => ⟨true, from_o m b x hG hx⟩
theorem mul_e (k m x y : Nat) (hG : OddM m) (hx : x < 2 ^ 256) (hy : y < 2 ^ 256) : EvC (modEvo 86) Tryd.prog 46 [.s (.v (.pointer (some ⟨k, 0, none⟩))), .agg (nat4 x), .agg (nat4 y)] (isMod 86 k m) (.agg (nat4 (mo m (x * y)))) :=
  OwnC.mod (by simp only [List.length_cons, List.length_nil, List.map_cons, List.map_nil, List.nodup_cons, List.nodup_nil, List.mem_cons, Nat.reduceAdd, Nat.reduceEqDiff, or_false, not_false_eq_true, forall_eq_or_imp, forall_eq, or_self, Nat.reduceLT, Nat.reduceLeDiff, and_self, List.forall_mem_cons, List.not_mem_nil, false_implies, implies_true, and_true, true_and, vcOAb26]) fun _ b => ⟨true, mul_o m b x y hG hx hy⟩

end Go.Proofs.YthniflakjkbpiaaDoor
