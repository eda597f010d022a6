/-
  Package pratt's statements: they answer true.
-/
import Derived.Test.YthniflakjkbpiaaDoorPa8
import Derived.Test.YthniflakjkbpiaaDoorPa2
namespace Go.Proofs.YthniflakjkbpiaaDoor
open Go Go.Ab
set_option linter.unusedSimpArgs false
set_option linter.unusedVariables false
set_option linter.defProp false
set_option maxHeartbeats 20000000
set_option maxRecDepth 100000


theorem prattProducts_m (x : Option Addr) (n c : Nat) (P : Nat → Nat) (E : Nat → Int) (hP : ∀ i, P i < 2 ^ 256) (hE : ∀ i, -9223372036854775808 ≤ E i ∧ E i < 9223372036854775808) (hn : n < 9223372036854775808) :
    PureM Tryd.prog 3 [.s (.v (.slice x n c))] (fun w => facs x n P E w ∧ least w) (.s (.v (.bool true))) := by
  have haw := pawake_m.ev (V := Evo.none)
  have hpr := (product_m x n c P E hP hE hn).ev (V := Evo.none)
  have hrp := (rproduct_m x n c P E hP hE hn).ev (V := Evo.none)
  obtain ⟨a, e, hae⟩ : ∃ a e, prS n P E = (a, e) := ⟨_, _, rfl⟩
  rw [hae] at hpr hrp
  dsimp only at hpr hrp
  (refine pureM_of Tryd.func3 rfl (by simp only [List.length_cons, List.length_nil, List.map_cons, List.map_nil, List.nodup_cons, List.nodup_nil, List.mem_cons, Nat.reduceAdd, Nat.reduceEqDiff, or_false, not_false_eq_true, forall_eq_or_imp, forall_eq, or_self, Nat.reduceLT, Nat.reduceLeDiff, and_self, List.forall_mem_cons, List.not_mem_nil, false_implies, implies_true, and_true, true_and, vcOPb]) (by simp only [List.length_cons, List.length_nil, List.map_cons, List.map_nil, List.nodup_cons, List.nodup_nil, List.mem_cons, Nat.reduceAdd, Nat.reduceEqDiff, or_false, not_false_eq_true, forall_eq_or_imp, forall_eq, or_self, Nat.reduceLT, Nat.reduceLeDiff, and_self, List.forall_mem_cons, List.not_mem_nil, false_implies, implies_true, and_true, true_and, vcOPb]) fun w hpre => ?_; simp only [List.length_cons, List.length_nil, Tryd.ntmps3, Nat.reduceAdd, Nat.reduceSub, List.replicate_succ, List.replicate_zero, List.cons_append, List.nil_append])
  have hF0 : Kn (ctx0 Tryd.prog w) fun _ w => facs x n P E w := (facs_kn hpre.1).facs0
  have hL := (least_kn (P0 := Tryd.prog) hpre.2).least0
  clear hpre hP hE
  by_cases h8 : 8 < n
  · have h8' : (8 : Int) < (n : Int) := by omega
    by_cases h40 : n ≤ 40
    · have h40' : (n : Int) ≤ 40 := by omega
      (repeat' ((first | with_reducible (first | apply XR_cons | apply XR_consG | apply XR_nil | apply cF_pure1 (by assumption) | apply cF_ev1 (by assumption)) | with_reducible (first | apply X_regRS (id := 2) | apply X_regR (id := 2) | apply X_seqX (x := .seq (.region 2 _ false) _) | apply X_seqX (x := .seq (.seq (.region 2 _ false) _) _) | apply X_regRS (id := 4) | apply X_regR (id := 4) | apply X_seqX (x := .seq (.region 4 _ false) _) | apply X_seqX (x := .seq (.seq (.region 4 _ false) _) _) | apply X_regRS (id := 5) | apply X_regR (id := 5) | apply X_seqX (x := .seq (.region 5 _ false) _) | apply X_seqX (x := .seq (.seq (.region 5 _ false) _) _) | apply X_regRS (id := 6) | apply X_regR (id := 6) | apply X_seqX (x := .seq (.region 6 _ false) _) | apply X_seqX (x := .seq (.seq (.region 6 _ false) _) _)) | refine X_of _ ?_ | with_reducible (first | exact ⟨_, rfl⟩ | refine And.intro ?_ ?_ | intro _)) <;> try simp -implicitDefEqProofs (maxSteps := 1000000) (disch := first | exact dz1 | fail) only [vcR, vcT, Int.reduceBEq, Int.reduceBNe, Int.reduceEq, Int.reduceNe, Ab.part, Nat.reduceAdd, Nat.reduceMul, Nat.reduceLeDiff, Nat.reduceEqDiff, Nat.reduceBEq, Nat.reduceBNe, reduceCtorEq, ↓reduceIte, implies_true, forall_const, Int.reduceNeg, Int.reduceToNat, Int.reduceLT, Int.reduceLE, Int.reduceAdd, Int.reduceSub, Int.reduceMul, Int.reducePow, Nat.reducePow, true_or, Option.isNone_some, Option.isNone_none, vcXPb, Tryd.f3, List.toList_toArray, arr4_zero, nat4_set1, nat4_setL, nat4_set0, h8',h40']))
    · have h40' : ¬ (n : Int) ≤ 40 := by omega
      (repeat' ((first | with_reducible (first | apply XR_cons | apply XR_consG | apply XR_nil | apply cF_pure1 (by assumption) | apply cF_ev1 (by assumption)) | with_reducible (first | apply X_regRS (id := 2) | apply X_regR (id := 2) | apply X_seqX (x := .seq (.region 2 _ false) _) | apply X_seqX (x := .seq (.seq (.region 2 _ false) _) _) | apply X_regRS (id := 4) | apply X_regR (id := 4) | apply X_seqX (x := .seq (.region 4 _ false) _) | apply X_seqX (x := .seq (.seq (.region 4 _ false) _) _) | apply X_regRS (id := 5) | apply X_regR (id := 5) | apply X_seqX (x := .seq (.region 5 _ false) _) | apply X_seqX (x := .seq (.seq (.region 5 _ false) _) _) | apply X_regRS (id := 6) | apply X_regR (id := 6) | apply X_seqX (x := .seq (.region 6 _ false) _) | apply X_seqX (x := .seq (.seq (.region 6 _ false) _) _)) | refine X_of _ ?_ | with_reducible (first | exact ⟨_, rfl⟩ | refine And.intro ?_ ?_ | intro _)) <;> try simp -implicitDefEqProofs (maxSteps := 1000000) (disch := first | exact dz1 | fail) only [vcR, vcT, Int.reduceBEq, Int.reduceBNe, Int.reduceEq, Int.reduceNe, Ab.part, Nat.reduceAdd, Nat.reduceMul, Nat.reduceLeDiff, Nat.reduceEqDiff, Nat.reduceBEq, Nat.reduceBNe, reduceCtorEq, ↓reduceIte, implies_true, forall_const, Int.reduceNeg, Int.reduceToNat, Int.reduceLT, Int.reduceLE, Int.reduceAdd, Int.reduceSub, Int.reduceMul, Int.reducePow, Nat.reducePow, true_or, Option.isNone_some, Option.isNone_none, vcXPb, Tryd.f3, List.toList_toArray, arr4_zero, nat4_set1, nat4_setL, nat4_set0, h8',h40',litsEq_self,beq_self_eq_true]))
  · have h8' : ¬ (8 : Int) < (n : Int) := by omega
    (repeat' ((first | with_reducible (first | apply XR_cons | apply XR_consG | apply XR_nil | apply cF_pure1 (by assumption) | apply cF_ev1 (by assumption)) | with_reducible (first | apply X_regRS (id := 2) | apply X_regR (id := 2) | apply X_seqX (x := .seq (.region 2 _ false) _) | apply X_seqX (x := .seq (.seq (.region 2 _ false) _) _) | apply X_regRS (id := 4) | apply X_regR (id := 4) | apply X_seqX (x := .seq (.region 4 _ false) _) | apply X_seqX (x := .seq (.seq (.region 4 _ false) _) _) | apply X_regRS (id := 5) | apply X_regR (id := 5) | apply X_seqX (x := .seq (.region 5 _ false) _) | apply X_seqX (x := .seq (.seq (.region 5 _ false) _) _) | apply X_regRS (id := 6) | apply X_regR (id := 6) | apply X_seqX (x := .seq (.region 6 _ false) _) | apply X_seqX (x := .seq (.seq (.region 6 _ false) _) _)) | refine X_of _ ?_ | with_reducible (first | exact ⟨_, rfl⟩ | refine And.intro ?_ ?_ | intro _)) <;> try simp -implicitDefEqProofs (maxSteps := 1000000) (disch := first | exact dz1 | fail) only [vcR, vcT, Int.reduceBEq, Int.reduceBNe, Int.reduceEq, Int.reduceNe, Ab.part, Nat.reduceAdd, Nat.reduceMul, Nat.reduceLeDiff, Nat.reduceEqDiff, Nat.reduceBEq, Nat.reduceBNe, reduceCtorEq, ↓reduceIte, implies_true, forall_const, Int.reduceNeg, Int.reduceToNat, Int.reduceLT, Int.reduceLE, Int.reduceAdd, Int.reduceSub, Int.reduceMul, Int.reducePow, Nat.reducePow, true_or, Option.isNone_some, Option.isNone_none, vcXPb, Tryd.f3, List.toList_toArray, arr4_zero, nat4_set1, nat4_setL, nat4_set0, h8',litsEq_self,beq_self_eq_true]))
end Go.Proofs.YthniflakjkbpiaaDoor
