/-
  What sortitionref03's functions say: what makes 1 with a number.
-/
import Derived.Test.YthniflakjkbpiaaQ2
namespace Go.Proofs.Ythniflakjkbpiaa
open Go Go.Ab
set_option linter.unusedSimpArgs false
set_option linter.unusedVariables false
set_option linter.defProp false
set_option maxHeartbeats 20000000
set_option maxRecDepth 100000


theorem rinverse_c (m a : Nat) (hG : OddM m) (ha : a < 2 ^ 256) : PureC Try.prog 41 [.agg (nat4 m), .agg (nat4 a)] (.tup [.agg (nat4 (inv m a)), .s (.v (.int .i64 (invE m a)))]) := by
  refine pureC_of Try.func41 rfl (by simp only [List.length_cons, List.length_nil, List.map_cons, List.map_nil, List.nodup_cons, List.nodup_nil, List.mem_cons, Nat.reduceAdd, Nat.reduceEqDiff, or_false, not_false_eq_true, forall_eq_or_imp, forall_eq, or_self, Nat.reduceLT, Nat.reduceLeDiff, and_self, List.forall_mem_cons, List.not_mem_nil, false_implies, implies_true, and_true, true_and, vcOAb25]) (by simp only [List.length_cons, List.length_nil, List.map_cons, List.map_nil, List.nodup_cons, List.nodup_nil, List.mem_cons, Nat.reduceAdd, Nat.reduceEqDiff, or_false, not_false_eq_true, forall_eq_or_imp, forall_eq, or_self, Nat.reduceLT, Nat.reduceLeDiff, and_self, List.forall_mem_cons, List.not_mem_nil, false_implies, implies_true, and_true, true_and, vcOAb25]) fun w => ?_
  simp only [List.length_cons, List.length_nil, Try.ntmps41, Nat.reduceAdd, Nat.reduceSub, List.replicate_succ, List.replicate_zero, List.cons_append, List.nil_append]
  obtain ⟨G, hGe⟩ : ∃ G, egc m m (a % m) 0 1 = G := ⟨_, rfl⟩
  have hi : inv m a = if G.1 = 1 then G.2 else 0 := by rw [← hGe]; rfl
  have he : invE m a = if G.1 = 1 then 0 else 11 := by rw [← hGe]; rfl
  obtain ⟨r, hr⟩ : ∃ r, inv m a = r := ⟨_, rfl⟩
  obtain ⟨e, hee⟩ : ∃ r, invE m a = r := ⟨_, rfl⟩
  rw [hr] at hi
  rw [hee] at he
  rw [hr, hee]
  clear hr hee
  have hm := hG.lt
  have hm0 := hG.pos
  (repeat' ((first | with_reducible (first | apply XR_cons | apply XR_consG | apply XR_nil | apply XM_cons | apply XM_consG | apply XM_nil | apply cF_pure (by assumption) | apply cM_pure (by assumption) | apply cF_ev (by assumption) | apply cM_ev (by assumption) | apply cF_pure (rdiv_c _ _ bd bd bd) | apply cM_pure (rdiv_c _ _ bd bd bd) | apply cF_pure (rmminus_c _ _ _ bd bd bd bd) | apply cM_pure (rmminus_c _ _ _ bd bd bd bd) | apply cF_pure (rmtimes_c _ _ _ bd bd bd bd) | apply cM_pure (rmtimes_c _ _ _ bd bd bd bd)) | with_reducible (first | apply X_regRS (id := 2) | apply X_regR (id := 2) | apply X_seqX (x := .seq (.region 2 _ false) _) | apply X_seqX (x := .seq (.seq (.region 2 _ false) _) _) | apply X_regRS (id := 7) | apply X_regR (id := 7) | apply X_seqX (x := .seq (.region 7 _ false) _) | apply X_seqX (x := .seq (.seq (.region 7 _ false) _) _)) | (with_reducible apply X_drawM (id := 8) 7 [] (.cons 7 (.cons 8 .nil .nil) .nil); (next => (kernel_rfl)); (next => (kernel_rfl))) | refine X_of _ ?_ | with_reducible (first | exact ⟨_, rfl⟩ | refine And.intro ?_ ?_ | intro _)) <;> try simp -implicitDefEqProofs (maxSteps := 1000000) (disch := first | exact dz | fail) only [vcR, vcT, Int.reduceBEq, Int.reduceBNe, Int.reduceEq, Int.reduceNe, Ab.part, Nat.reduceAdd, Nat.reduceMul, Nat.reduceLeDiff, Nat.reduceEqDiff, Nat.reduceBEq, Nat.reduceBNe, reduceCtorEq, ↓reduceIte, implies_true, forall_const, Int.reduceNeg, Int.reduceToNat, Int.reduceLT, Int.reduceLE, Int.reduceAdd, Int.reduceSub, Int.reduceMul, Int.reducePow, Nat.reducePow, true_or, Option.isNone_some, Option.isNone_none, vcXAb25, Try.f41, List.toList_toArray, arr4_zero, nat4_set1, nat4_setL, nat4_set0]))
  refine X_loop (ι := Nat × Nat × Nat × Nat) (fun i => (i.1 < 2 ^ 256 ∧ i.2.1 < 2 ^ 256 ∧ i.2.2.1 < 2 ^ 256 ∧ i.2.2.2 < 2 ^ 256) ∧ egc m i.1 i.2.1 i.2.2.1 i.2.2.2 = G) (fun i => i.2.1) [13, 14, 15, 16, 28, 29, 30, 31, 32, 33, 34, 35, 36, 37, 38, 39, 40, 41, 42, 43, 44, 45, 46, 47, 48, 49, 50, 51, 52, 53]
    (fun i => [])
    (fun i => [(6, nat4 i.1), (5, nat4 i.2.1), (7, nat4 i.2.2.1), (8, nat4 i.2.2.2)]) (m, a % m, 0, 1) (shape_of fun i => ?_) (by decide) ?_ ?_
  · simp only [List.length_cons, List.length_nil, List.map_cons, List.map_nil, List.nodup_cons, List.nodup_nil, List.mem_cons, Nat.reduceAdd, Nat.reduceEqDiff, or_false, not_false_eq_true, forall_eq_or_imp, forall_eq, or_self, Nat.reduceLT, Nat.reduceLeDiff, and_self, List.forall_mem_cons, List.not_mem_nil, false_implies, implies_true, and_true, true_and, vcOAb25]
  · simp -implicitDefEqProofs (maxSteps := 1000000) (disch := first | exact dz | fail) only [vcR, vcT, Int.reduceBEq, Int.reduceBNe, Int.reduceEq, Int.reduceNe, Ab.part, Nat.reduceAdd, Nat.reduceMul, Nat.reduceLeDiff, Nat.reduceEqDiff, Nat.reduceBEq, Nat.reduceBNe, reduceCtorEq, ↓reduceIte, implies_true, forall_const, Int.reduceNeg, Int.reduceToNat, Int.reduceLT, Int.reduceLE, Int.reduceAdd, Int.reduceSub, Int.reduceMul, Int.reducePow, Nat.reducePow, true_or, Option.isNone_some, Option.isNone_none, vcXAb25, Try.f41, List.toList_toArray, again_eq]
    exact ⟨⟨OddM.mod_lt hG, hGe⟩, _, rfl⟩
  · rintro ⟨x, y, s, t⟩ us ⟨⟨hx, hy, hs, ht⟩, hg⟩
    simp only at hx hy hs ht hg ⊢
    by_cases h0 : y = 0
    · subst h0
      rw [egc_zero] at hg
      subst hg
      simp only at hi he
      have e0 : litsEq (lits 4 (wd 0)) (lits 4 (wd 0)) = true := litsEq_self _
      by_cases h1 : x = 1
      · rw [if_pos h1] at hi he
        subst h1 hi he
        have e1 : litsEq (lits 4 (wd 1)) (lits 4 (wd 1)) = true := litsEq_self _
        (repeat' ((first | with_reducible (first | apply XR_cons | apply XR_consG | apply XR_nil | apply XM_cons | apply XM_consG | apply XM_nil | apply cF_pure (by assumption) | apply cM_pure (by assumption) | apply cF_ev (by assumption) | apply cM_ev (by assumption) | apply cF_pure (rdiv_c _ _ bd bd bd) | apply cM_pure (rdiv_c _ _ bd bd bd) | apply cF_pure (rmminus_c _ _ _ bd bd bd bd) | apply cM_pure (rmminus_c _ _ _ bd bd bd bd) | apply cF_pure (rmtimes_c _ _ _ bd bd bd bd) | apply cM_pure (rmtimes_c _ _ _ bd bd bd bd)) | with_reducible (first | apply X_regRS (id := 2) | apply X_regR (id := 2) | apply X_seqX (x := .seq (.region 2 _ false) _) | apply X_seqX (x := .seq (.seq (.region 2 _ false) _) _) | apply X_regRS (id := 7) | apply X_regR (id := 7) | apply X_seqX (x := .seq (.region 7 _ false) _) | apply X_seqX (x := .seq (.seq (.region 7 _ false) _) _)) | (with_reducible apply X_drawM (id := 8) 7 [] (.cons 7 (.cons 8 .nil .nil) .nil); (next => (kernel_rfl)); (next => (kernel_rfl))) | refine X_of _ ?_ | with_reducible (first | exact ⟨_, rfl⟩ | refine And.intro ?_ ?_ | intro _)) <;> try simp -implicitDefEqProofs (maxSteps := 1000000) (disch := first | exact dz | fail) only [vcR, vcT, Int.reduceBEq, Int.reduceBNe, Int.reduceEq, Int.reduceNe, Ab.part, Nat.reduceAdd, Nat.reduceMul, Nat.reduceLeDiff, Nat.reduceEqDiff, Nat.reduceBEq, Nat.reduceBNe, reduceCtorEq, ↓reduceIte, implies_true, forall_const, Int.reduceNeg, Int.reduceToNat, Int.reduceLT, Int.reduceLE, Int.reduceAdd, Int.reduceSub, Int.reduceMul, Int.reducePow, Nat.reducePow, true_or, Option.isNone_some, Option.isNone_none, vcXAb25, Try.f41, List.toList_toArray, arr4_zero, nat4_set1, nat4_setL, nat4_set0, e0,e1]))
      · rw [if_neg h1] at hi he
        subst hi he
        have e1 : litsEq (lits 4 (wd x)) (lits 4 (wd 1)) = false := by rw [litsEq_nat4 hx (by decide)]; simp [h1]
        (repeat' ((first | with_reducible (first | apply XR_cons | apply XR_consG | apply XR_nil | apply XM_cons | apply XM_consG | apply XM_nil | apply cF_pure (by assumption) | apply cM_pure (by assumption) | apply cF_ev (by assumption) | apply cM_ev (by assumption) | apply cF_pure (rdiv_c _ _ bd bd bd) | apply cM_pure (rdiv_c _ _ bd bd bd) | apply cF_pure (rmminus_c _ _ _ bd bd bd bd) | apply cM_pure (rmminus_c _ _ _ bd bd bd bd) | apply cF_pure (rmtimes_c _ _ _ bd bd bd bd) | apply cM_pure (rmtimes_c _ _ _ bd bd bd bd)) | with_reducible (first | apply X_regRS (id := 2) | apply X_regR (id := 2) | apply X_seqX (x := .seq (.region 2 _ false) _) | apply X_seqX (x := .seq (.seq (.region 2 _ false) _) _) | apply X_regRS (id := 7) | apply X_regR (id := 7) | apply X_seqX (x := .seq (.region 7 _ false) _) | apply X_seqX (x := .seq (.seq (.region 7 _ false) _) _)) | (with_reducible apply X_drawM (id := 8) 7 [] (.cons 7 (.cons 8 .nil .nil) .nil); (next => (kernel_rfl)); (next => (kernel_rfl))) | refine X_of _ ?_ | with_reducible (first | exact ⟨_, rfl⟩ | refine And.intro ?_ ?_ | intro _)) <;> try simp -implicitDefEqProofs (maxSteps := 1000000) (disch := first | exact dz | fail) only [vcR, vcT, Int.reduceBEq, Int.reduceBNe, Int.reduceEq, Int.reduceNe, Ab.part, Nat.reduceAdd, Nat.reduceMul, Nat.reduceLeDiff, Nat.reduceEqDiff, Nat.reduceBEq, Nat.reduceBNe, reduceCtorEq, ↓reduceIte, implies_true, forall_const, Int.reduceNeg, Int.reduceToNat, Int.reduceLT, Int.reduceLE, Int.reduceAdd, Int.reduceSub, Int.reduceMul, Int.reducePow, Nat.reducePow, true_or, Option.isNone_some, Option.isNone_none, vcXAb25, Try.f41, List.toList_toArray, arr4_zero, nat4_set1, nat4_setL, nat4_set0, e0,e1]))
    · rw [egc_step _ _ _ _ _ h0] at hg
      have e0 : litsEq (lits 4 (wd y)) (lits 4 (wd 0)) = false := by rw [litsEq_nat4 hy (by decide)]; simp [h0]
      have hyp : 0 < y := by omega
      have hq : x / y < 2 ^ 256 := Nat.lt_of_le_of_lt (Nat.div_le_self _ _) hx
      have hr : x % y < y := Nat.mod_lt _ hyp
      (repeat' ((first | with_reducible (first | apply XR_cons | apply XR_consG | apply XR_nil | apply XM_cons | apply XM_consG | apply XM_nil | apply cF_pure (by assumption) | apply cM_pure (by assumption) | apply cF_ev (by assumption) | apply cM_ev (by assumption) | apply cF_pure (rdiv_c _ _ bd bd bd) | apply cM_pure (rdiv_c _ _ bd bd bd) | apply cF_pure (rmminus_c _ _ _ bd bd bd bd) | apply cM_pure (rmminus_c _ _ _ bd bd bd bd) | apply cF_pure (rmtimes_c _ _ _ bd bd bd bd) | apply cM_pure (rmtimes_c _ _ _ bd bd bd bd)) | with_reducible (first | apply X_regRS (id := 2) | apply X_regR (id := 2) | apply X_seqX (x := .seq (.region 2 _ false) _) | apply X_seqX (x := .seq (.seq (.region 2 _ false) _) _) | apply X_regRS (id := 7) | apply X_regR (id := 7) | apply X_seqX (x := .seq (.region 7 _ false) _) | apply X_seqX (x := .seq (.seq (.region 7 _ false) _) _)) | (with_reducible apply X_drawM (id := 8) 7 [] (.cons 7 (.cons 8 .nil .nil) .nil); (next => (kernel_rfl)); (next => (kernel_rfl))) | refine X_of _ ?_ | with_reducible (first | exact ⟨_, rfl⟩ | refine And.intro ?_ ?_ | intro _)) <;> try simp -implicitDefEqProofs (maxSteps := 1000000) (disch := first | exact dz | fail) only [vcR, vcT, Int.reduceBEq, Int.reduceBNe, Int.reduceEq, Int.reduceNe, Ab.part, Nat.reduceAdd, Nat.reduceMul, Nat.reduceLeDiff, Nat.reduceEqDiff, Nat.reduceBEq, Nat.reduceBNe, reduceCtorEq, ↓reduceIte, implies_true, forall_const, Int.reduceNeg, Int.reduceToNat, Int.reduceLT, Int.reduceLE, Int.reduceAdd, Int.reduceSub, Int.reduceMul, Int.reducePow, Nat.reducePow, true_or, Option.isNone_some, Option.isNone_none, vcXAb25, Try.f41, List.toList_toArray, arr4_zero, nat4_set1, nat4_setL, nat4_set0, e0,xAtM_load]))
      all_goals
        refine ⟨(y, x % y, t, msub m s (x / y * t % m)), hr, ?_⟩
        simp -implicitDefEqProofs (maxSteps := 1000000) (disch := first | exact dz | fail) only [vcR, vcT, Int.reduceBEq, Int.reduceBNe, Int.reduceEq, Int.reduceNe, Ab.part, Nat.reduceAdd, Nat.reduceMul, Nat.reduceLeDiff, Nat.reduceEqDiff, Nat.reduceBEq, Nat.reduceBNe, reduceCtorEq, ↓reduceIte, implies_true, forall_const, Int.reduceNeg, Int.reduceToNat, Int.reduceLT, Int.reduceLE, Int.reduceAdd, Int.reduceSub, Int.reduceMul, Int.reducePow, Nat.reducePow, true_or, Option.isNone_some, Option.isNone_none, vcXAb25, Try.f41, List.toList_toArray, again_eq]
        exact ⟨⟨OddM.msub_lt hG, hg⟩, _, rfl⟩


theorem rsum_e (m : Nat) (x : Option Addr) (n c : Nat) (l : Nat → Nat) (hG : OddM m) (hl : ∀ i, l i < 2 ^ 256) (hn : n < 9223372036854775808) :
    EvC (modEvo 78) Try.prog 43 [.agg (nat4 m), .s (.v (.slice x n c))] (natsAt (modEvo 78) x n l) (.agg (nat4 (sumM m l n))) := by
  (refine evC_of Try.func43 rfl (by simp only [List.length_cons, List.length_nil, List.map_cons, List.map_nil, List.nodup_cons, List.nodup_nil, List.mem_cons, Nat.reduceAdd, Nat.reduceEqDiff, or_false, not_false_eq_true, forall_eq_or_imp, forall_eq, or_self, Nat.reduceLT, Nat.reduceLeDiff, and_self, List.forall_mem_cons, List.not_mem_nil, false_implies, implies_true, and_true, true_and, vcOAb25]) (by simp only [List.length_cons, List.length_nil, List.map_cons, List.map_nil, List.nodup_cons, List.nodup_nil, List.mem_cons, Nat.reduceAdd, Nat.reduceEqDiff, or_false, not_false_eq_true, forall_eq_or_imp, forall_eq, or_self, Nat.reduceLT, Nat.reduceLeDiff, and_self, List.forall_mem_cons, List.not_mem_nil, false_implies, implies_true, and_true, true_and, vcOAb25]) fun B w hpre => ?_; simp only [List.length_cons, List.length_nil, Try.ntmps43, Nat.reduceAdd, Nat.reduceSub, List.replicate_succ, List.replicate_zero, List.cons_append, List.nil_append])
  have hN : Kn (ctxE Try.prog (modEvo 78) w B) (natsAt (modEvo 78) x n l) := Kn.entry (natsAt_stays _ x n l) hpre
  have hm := hG.lt
  have hm0 := hG.pos
  (repeat' ((first | with_reducible (first | apply XQ_cons | apply XQ_consG | apply XQ_nil | apply XR_cons | apply XR_consG | apply XR_nil | apply cF_pure (by assumption) | apply cV_pure (by assumption) | apply cF_ev (by assumption) | apply cV_ev (by assumption) | apply cF_pure (rmplus_c _ _ _ bd bd bd bd) | apply cV_pure (rmplus_c _ _ _ bd bd bd bd)) | (with_reducible apply X_drawC (id := 5) 7; (next => (kernel_rfl)); (next => (kernel_rfl))) | refine X_of _ ?_ | with_reducible (first | exact ⟨_, rfl⟩ | refine And.intro ?_ ?_ | intro _)) <;> try simp -implicitDefEqProofs (maxSteps := 1000000) (disch := first | exact dz | fail) only [vcR, vcT, Int.reduceBEq, Int.reduceBNe, Int.reduceEq, Int.reduceNe, Ab.part, Nat.reduceAdd, Nat.reduceMul, Nat.reduceLeDiff, Nat.reduceEqDiff, Nat.reduceBEq, Nat.reduceBNe, reduceCtorEq, ↓reduceIte, implies_true, forall_const, Int.reduceNeg, Int.reduceToNat, Int.reduceLT, Int.reduceLE, Int.reduceAdd, Int.reduceSub, Int.reduceMul, Int.reducePow, Nat.reducePow, true_or, Option.isNone_some, Option.isNone_none, vcXAb25, Try.f43, List.toList_toArray, arr4_zero, nat4_set1, nat4_setL, nat4_set0]))
  refine X_loop (ι := Nat) (fun i => i ≤ n) (fun i => n - i) [6, 8, 9, 10, 11, 12, 13, 14, 15, 16, 17, 18, 19, 20, 21]
    (fun i => [(6, .s (.v (.int .i64 (i : Nat))))])
    (fun i => [(2, nat4 (sumM m l i))]) 0 (shape_of fun i => ?_) (by decide) ?_ ?_
  · simp only [List.length_cons, List.length_nil, List.map_cons, List.map_nil, List.nodup_cons, List.nodup_nil, List.mem_cons, Nat.reduceAdd, Nat.reduceEqDiff, or_false, not_false_eq_true, forall_eq_or_imp, forall_eq, or_self, Nat.reduceLT, Nat.reduceLeDiff, and_self, List.forall_mem_cons, List.not_mem_nil, false_implies, implies_true, and_true, true_and, vcOAb25]
  · simp -implicitDefEqProofs (maxSteps := 1000000) (disch := first | exact dz | fail) only [vcR, vcT, Int.reduceBEq, Int.reduceBNe, Int.reduceEq, Int.reduceNe, Ab.part, Nat.reduceAdd, Nat.reduceMul, Nat.reduceLeDiff, Nat.reduceEqDiff, Nat.reduceBEq, Nat.reduceBNe, reduceCtorEq, ↓reduceIte, implies_true, forall_const, Int.reduceNeg, Int.reduceToNat, Int.reduceLT, Int.reduceLE, Int.reduceAdd, Int.reduceSub, Int.reduceMul, Int.reducePow, Nat.reducePow, true_or, Option.isNone_some, Option.isNone_none, vcXAb25, Try.f43, List.toList_toArray, again_eq]
    try simp
    all_goals rfl
  · intro i us hi
    by_cases h : i < n
    · obtain ⟨ad, rfl⟩ : ∃ ad, x = some ad := by
        rcases hpre with h0 | ⟨ad, h0, _⟩
        · omega
        · exact ⟨ad, h0⟩
      have hx : ∀ {K : TV → HE → Prop}, xext (ctxE Try.prog (modEvo 78) w B) (some true) 4 (ad.add (i * 4)) K = K (.agg (nat4 (l i))) .none := fun {K} => hN.nat h
      have h1 := rmplus_c m (sumM m l i) (l i) hm0 hm (sumM_lt hG l i) (hl i)
      clear hpre hl
      (repeat' ((first | with_reducible (first | apply XQ_cons | apply XQ_consG | apply XQ_nil | apply XR_cons | apply XR_consG | apply XR_nil | apply cF_pure (by assumption) | apply cV_pure (by assumption) | apply cF_ev (by assumption) | apply cV_ev (by assumption)) | (with_reducible apply X_drawC (id := 5) 7; (next => (kernel_rfl)); (next => (kernel_rfl))) | refine X_of _ ?_ | with_reducible (first | exact ⟨_, rfl⟩ | refine And.intro ?_ ?_ | intro _)) <;> try simp -implicitDefEqProofs (maxSteps := 1000000) (disch := first | exact dz | fail) only [vcR, vcT, Int.reduceBEq, Int.reduceBNe, Int.reduceEq, Int.reduceNe, Ab.part, Nat.reduceAdd, Nat.reduceMul, Nat.reduceLeDiff, Nat.reduceEqDiff, Nat.reduceBEq, Nat.reduceBNe, reduceCtorEq, ↓reduceIte, implies_true, forall_const, Int.reduceNeg, Int.reduceToNat, Int.reduceLT, Int.reduceLE, Int.reduceAdd, Int.reduceSub, Int.reduceMul, Int.reducePow, Nat.reducePow, true_or, Option.isNone_some, Option.isNone_none, vcXAb25, Try.f43, List.toList_toArray, arr4_zero, nat4_set1, nat4_setL, nat4_set0, hx]))
      refine ⟨i + 1, by omega, ?_⟩
      simp -implicitDefEqProofs (maxSteps := 1000000) (disch := first | exact dz | fail) only [vcR, vcT, Int.reduceBEq, Int.reduceBNe, Int.reduceEq, Int.reduceNe, Ab.part, Nat.reduceAdd, Nat.reduceMul, Nat.reduceLeDiff, Nat.reduceEqDiff, Nat.reduceBEq, Nat.reduceBNe, reduceCtorEq, ↓reduceIte, implies_true, forall_const, Int.reduceNeg, Int.reduceToNat, Int.reduceLT, Int.reduceLE, Int.reduceAdd, Int.reduceSub, Int.reduceMul, Int.reducePow, Nat.reducePow, true_or, Option.isNone_some, Option.isNone_none, vcXAb25, Try.f43, List.toList_toArray, again_eq]
      first | exact ⟨_, rfl, rfl⟩ | exact ⟨_, rfl⟩ | rfl | trace_state
    · have : i = n := by omega
      subst this
      clear hpre
      (repeat' ((first | with_reducible (first | apply XQ_cons | apply XQ_consG | apply XQ_nil | apply XR_cons | apply XR_consG | apply XR_nil | apply cF_pure (by assumption) | apply cV_pure (by assumption) | apply cF_ev (by assumption) | apply cV_ev (by assumption) | apply cF_pure (rmplus_c _ _ _ bd bd bd bd) | apply cV_pure (rmplus_c _ _ _ bd bd bd bd)) | (with_reducible apply X_drawC (id := 5) 7; (next => (kernel_rfl)); (next => (kernel_rfl))) | refine X_of _ ?_ | with_reducible (first | exact ⟨_, rfl⟩ | refine And.intro ?_ ?_ | intro _)) <;> try simp -implicitDefEqProofs (maxSteps := 1000000) (disch := first | exact dz | fail) only [vcR, vcT, Int.reduceBEq, Int.reduceBNe, Int.reduceEq, Int.reduceNe, Ab.part, Nat.reduceAdd, Nat.reduceMul, Nat.reduceLeDiff, Nat.reduceEqDiff, Nat.reduceBEq, Nat.reduceBNe, reduceCtorEq, ↓reduceIte, implies_true, forall_const, Int.reduceNeg, Int.reduceToNat, Int.reduceLT, Int.reduceLE, Int.reduceAdd, Int.reduceSub, Int.reduceMul, Int.reducePow, Nat.reducePow, true_or, Option.isNone_some, Option.isNone_none, vcXAb25, Try.f43, List.toList_toArray, arr4_zero, nat4_set1, nat4_setL, nat4_set0]))
end Go.Proofs.Ythniflakjkbpiaa
