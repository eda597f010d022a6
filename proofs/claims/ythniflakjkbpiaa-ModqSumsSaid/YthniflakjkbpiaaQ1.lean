/-
  modq: sums.
-/
import Derived.Test.YthniflakjkbpiaaAb25
namespace Go.Proofs.Ythniflakjkbpiaa
open Go Go.Ab
set_option linter.unusedSimpArgs false
set_option linter.unusedVariables false
set_option linter.defProp false
set_option maxHeartbeats 20000000
set_option maxRecDepth 100000

/-- The sum of the first n. -/
def sumM (m : Nat) (l : Nat → Nat) : Nat → Nat
  | 0 => 0
  | n + 1 => (sumM m l n + l n) % m
theorem sumM_lt {m : Nat} (h : OddM m) (l : Nat → Nat) : ∀ n, sumM m l n < 2 ^ 256
  | 0 => by show 0 < 2 ^ 256; decide
  | n + 1 => h.mod_lt


theorem sum_e (k m : Nat) (x : Option Addr) (n c : Nat) (l : Nat → Nat) (hG : OddM m) (hl : ∀ i, l i < 2 ^ 256) (hn : n < 9223372036854775808) :
    EvC (modEvo 78) Try.prog 42 [.s (.v (.pointer (some ⟨k, 0, none⟩))), .s (.v (.slice x n c))] (fun B w => isMod 78 k m B w ∧ natsAt (modEvo 78) x n l B w) (.agg (nat4 (sumM m l n))) := by
  (refine evC_of Try.func42 rfl (by simp only [List.length_cons, List.length_nil, List.map_cons, List.map_nil, List.nodup_cons, List.nodup_nil, List.mem_cons, Nat.reduceAdd, Nat.reduceEqDiff, or_false, not_false_eq_true, forall_eq_or_imp, forall_eq, or_self, Nat.reduceLT, Nat.reduceLeDiff, and_self, List.forall_mem_cons, List.not_mem_nil, false_implies, implies_true, and_true, true_and, vcOAb25]) (by simp only [List.length_cons, List.length_nil, List.map_cons, List.map_nil, List.nodup_cons, List.nodup_nil, List.mem_cons, Nat.reduceAdd, Nat.reduceEqDiff, or_false, not_false_eq_true, forall_eq_or_imp, forall_eq, or_self, Nat.reduceLT, Nat.reduceLeDiff, and_self, List.forall_mem_cons, List.not_mem_nil, false_implies, implies_true, and_true, true_and, vcOAb25]) fun B w hpre => ?_; simp only [List.length_cons, List.length_nil, Try.ntmps42, Nat.reduceAdd, Nat.reduceSub, List.replicate_succ, List.replicate_zero, List.cons_append, List.nil_append])
  have hM : Kn (ctxE Try.prog (modEvo 78) w B) (isMod 78 k m) := Kn.entry (isMod_stays _ k m) hpre.1
  have hN : Kn (ctxE Try.prog (modEvo 78) w B) (natsAt (modEvo 78) x n l) := Kn.entry (natsAt_stays _ x n l) hpre.2
  have hN0 := hpre.2
  clear hpre
  (repeat' ((first | with_reducible (first | apply cF_pure (by assumption) | apply cF_ev (by assumption) | apply cF_ev (plus_e _ _ _ _ bd bd bd)) | refine X_of _ ?_ | with_reducible (first | exact ⟨_, rfl⟩ | refine And.intro ?_ ?_ | intro _)) <;> try simp -implicitDefEqProofs (maxSteps := 1000000) (disch := first | exact dz | fail) only [vcR, vcT, Int.reduceBEq, Int.reduceBNe, Int.reduceEq, Int.reduceNe, Ab.part, Nat.reduceAdd, Nat.reduceMul, Nat.reduceLeDiff, Nat.reduceEqDiff, Nat.reduceBEq, Nat.reduceBNe, reduceCtorEq, ↓reduceIte, implies_true, forall_const, Int.reduceNeg, Int.reduceToNat, Int.reduceLT, Int.reduceLE, Int.reduceAdd, Int.reduceSub, Int.reduceMul, Int.reducePow, Nat.reducePow, true_or, Option.isNone_some, Option.isNone_none, vcXAb25, Try.f42, List.toList_toArray, arr4_zero, nat4_set1, nat4_setL, nat4_set0]))
  refine X_loop (ι := Nat) (fun i => i ≤ n) (fun i => n - i) [7, 10, 11, 12, 13, 14, 15, 16, 17, 18, 19]
    (fun i => [(10, .s (.v (.int .i64 (i : Nat))))])
    (fun i => [(1, nat4 (sumM m l i))]) 0 (shape_of fun i => ?_) (by decide) ?_ ?_
  · simp only [List.length_cons, List.length_nil, List.map_cons, List.map_nil, List.nodup_cons, List.nodup_nil, List.mem_cons, Nat.reduceAdd, Nat.reduceEqDiff, or_false, not_false_eq_true, forall_eq_or_imp, forall_eq, or_self, Nat.reduceLT, Nat.reduceLeDiff, and_self, List.forall_mem_cons, List.not_mem_nil, false_implies, implies_true, and_true, true_and, vcOAb25]
  · simp -implicitDefEqProofs (maxSteps := 1000000) (disch := first | exact dz | fail) only [vcR, vcT, Int.reduceBEq, Int.reduceBNe, Int.reduceEq, Int.reduceNe, Ab.part, Nat.reduceAdd, Nat.reduceMul, Nat.reduceLeDiff, Nat.reduceEqDiff, Nat.reduceBEq, Nat.reduceBNe, reduceCtorEq, ↓reduceIte, implies_true, forall_const, Int.reduceNeg, Int.reduceToNat, Int.reduceLT, Int.reduceLE, Int.reduceAdd, Int.reduceSub, Int.reduceMul, Int.reducePow, Nat.reducePow, true_or, Option.isNone_some, Option.isNone_none, vcXAb25, Try.f42, List.toList_toArray, again_eq]
    try simp
    all_goals rfl
  · intro i us hi
    (repeat (refine X_of _ ?_; simp -implicitDefEqProofs (maxSteps := 1000000) (disch := first | exact dz | fail) only [vcR, vcT, Int.reduceBEq, Int.reduceBNe, Int.reduceEq, Int.reduceNe, Ab.part, Nat.reduceAdd, Nat.reduceMul, Nat.reduceLeDiff, Nat.reduceEqDiff, Nat.reduceBEq, Nat.reduceBNe, reduceCtorEq, ↓reduceIte, implies_true, forall_const, Int.reduceNeg, Int.reduceToNat, Int.reduceLT, Int.reduceLE, Int.reduceAdd, Int.reduceSub, Int.reduceMul, Int.reducePow, Nat.reducePow, true_or, Option.isNone_some, Option.isNone_none, vcXAb25, Try.f42, List.toList_toArray]))
    refine ⟨fun h => ?_, fun h => ?_⟩
    · have hlt : i < n := by omega
      obtain ⟨ad, rfl⟩ : ∃ ad, x = some ad := by
        rcases hN0 with h0 | ⟨ad, h0, _⟩
        · omega
        · exact ⟨ad, h0⟩
      have hx : ∀ {K : TV → HE → Prop}, xext (ctxE Try.prog (modEvo 78) w B) (some true) 4 (ad.add (i * 4)) K = K (.agg (nat4 (l i))) .none := fun {K} => hN.nat hlt
      have h1 := plus_e k m (sumM m l i) (l i) hG (sumM_lt hG l i) (hl i)
      clear hN0 hl
      (repeat' ((first | with_reducible (first | apply cF_pure (by assumption) | apply cF_ev (by assumption)) | refine X_of _ ?_ | with_reducible (first | exact ⟨_, rfl⟩ | refine And.intro ?_ ?_ | intro _)) <;> try simp -implicitDefEqProofs (maxSteps := 1000000) (disch := first | exact dz | fail) only [vcR, vcT, Int.reduceBEq, Int.reduceBNe, Int.reduceEq, Int.reduceNe, Ab.part, Nat.reduceAdd, Nat.reduceMul, Nat.reduceLeDiff, Nat.reduceEqDiff, Nat.reduceBEq, Nat.reduceBNe, reduceCtorEq, ↓reduceIte, implies_true, forall_const, Int.reduceNeg, Int.reduceToNat, Int.reduceLT, Int.reduceLE, Int.reduceAdd, Int.reduceSub, Int.reduceMul, Int.reducePow, Nat.reducePow, true_or, Option.isNone_some, Option.isNone_none, vcXAb25, Try.f42, List.toList_toArray, arr4_zero, nat4_set1, nat4_setL, nat4_set0, hx]))
      refine ⟨i + 1, by omega, ?_⟩
      simp -implicitDefEqProofs (maxSteps := 1000000) (disch := first | exact dz | fail) only [vcR, vcT, Int.reduceBEq, Int.reduceBNe, Int.reduceEq, Int.reduceNe, Ab.part, Nat.reduceAdd, Nat.reduceMul, Nat.reduceLeDiff, Nat.reduceEqDiff, Nat.reduceBEq, Nat.reduceBNe, reduceCtorEq, ↓reduceIte, implies_true, forall_const, Int.reduceNeg, Int.reduceToNat, Int.reduceLT, Int.reduceLE, Int.reduceAdd, Int.reduceSub, Int.reduceMul, Int.reducePow, Nat.reducePow, true_or, Option.isNone_some, Option.isNone_none, vcXAb25, Try.f42, List.toList_toArray, again_eq]
      exact ⟨_, rfl, rfl⟩
    · have : i = n := by omega
      subst this
      (repeat' ((first | with_reducible (first | apply cF_pure (by assumption) | apply cF_ev (by assumption) | apply cF_ev (plus_e _ _ _ _ bd bd bd)) | refine X_of _ ?_ | with_reducible (first | exact ⟨_, rfl⟩ | refine And.intro ?_ ?_ | intro _)) <;> try simp -implicitDefEqProofs (maxSteps := 1000000) (disch := first | exact dz | fail) only [vcR, vcT, Int.reduceBEq, Int.reduceBNe, Int.reduceEq, Int.reduceNe, Ab.part, Nat.reduceAdd, Nat.reduceMul, Nat.reduceLeDiff, Nat.reduceEqDiff, Nat.reduceBEq, Nat.reduceBNe, reduceCtorEq, ↓reduceIte, implies_true, forall_const, Int.reduceNeg, Int.reduceToNat, Int.reduceLT, Int.reduceLE, Int.reduceAdd, Int.reduceSub, Int.reduceMul, Int.reducePow, Nat.reducePow, true_or, Option.isNone_some, Option.isNone_none, vcXAb25, Try.f42, List.toList_toArray, arr4_zero, nat4_set1, nat4_setL, nat4_set0]))
end Go.Proofs.Ythniflakjkbpiaa
