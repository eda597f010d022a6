/-
  Package mont's statements: their code.
-/
import Derived.Test.YthniflakjkbpiaaAb26
import Derived.Test.YthniflakjkbpiaaM6b
import Derived.Test.YthniflakjkbpiaaKM
import Derived.Test.YthniflakjkbpiaaKR
namespace Go.Proofs.Ythniflakjkbpiaa
open Go Go.Ab
set_option linter.unusedSimpArgs false
set_option linter.unusedVariables false
set_option linter.defProp false
set_option maxHeartbeats 20000000
set_option maxRecDepth 100000

theorem OddM.msub_lt {m x y : Nat} (h : OddM m) : msub m x y < 2 ^ 256 := h.mod_lt
theorem odd13 : OddM 13 := ⟨by decide, by decide, by decide⟩


theorem mawake_c : PureC Try.prog 20 [] (.s (.v (.bool true))) := by
  have hG := odd13
  have h1 := new_bad 8 (by decide) (fun h => by have := h.odd; omega)
  have h2 := new_bad 1 (by decide) (fun h => by have := h.gt; omega)
  have h3 := new_good 13 hG
  rw [show chk 8 = 12 from rfl] at h1
  rw [show chk 1 = 11 from rfl] at h2
  have e1 : img 13 1 = 3 := by decide
  have e2 := mo_back hG 5
  have e3 : 5 % 13 = 5 := rfl
  have e4 : 7 * 8 % 13 = 4 := rfl
  have e5 : 56 % 13 = 4 := rfl
  have e6 : 4096 % 13 = 1 := rfl
  refine pureC_of Try.func20 rfl (by simp only [List.length_cons, List.length_nil, List.map_cons, List.map_nil, List.nodup_cons, List.nodup_nil, List.mem_cons, Nat.reduceAdd, Nat.reduceEqDiff, or_false, not_false_eq_true, forall_eq_or_imp, forall_eq, or_self, Nat.reduceLT, Nat.reduceLeDiff, and_self, List.forall_mem_cons, List.not_mem_nil, false_implies, implies_true, and_true, true_and, vcOAb26]) (by simp only [List.length_cons, List.length_nil, List.map_cons, List.map_nil, List.nodup_cons, List.nodup_nil, List.mem_cons, Nat.reduceAdd, Nat.reduceEqDiff, or_false, not_false_eq_true, forall_eq_or_imp, forall_eq, or_self, Nat.reduceLT, Nat.reduceLeDiff, and_self, List.forall_mem_cons, List.not_mem_nil, false_implies, implies_true, and_true, true_and, vcOAb26]) fun w => ?_
  simp only [List.length_cons, List.length_nil, Try.ntmps20, Nat.reduceAdd, Nat.reduceSub, List.replicate_succ, List.replicate_zero, List.cons_append, List.nil_append]
  (repeat' ((first | ((refine X_mod 0 [] rfl (by decide) (by decide) ?_ ?_ ?_ ?_); (next => (with_reducible assumption)); (next => (simp)); (next => (simp [pickH_cons, pickH_nil, consH_some])); (intro β1 w1 hM1)) | with_reducible (first | apply XR_cons | apply XR_consG | apply XR_nil | apply cF_pure (by assumption) | apply cF_ev (from_e _ _ _ bd0 bd0) | apply cF_ev (pow_e _ _ _ _ bd0 bd0 bd0) | apply cF_ev (times_e _ _ _ _ bd0 bd0 bd0) | apply cF_ev (to_e _ _ _ bd0 bd0)) | ((with_reducible apply cF_new (by assumption)); (first | rintro _ _ ⟨rfl, rfl⟩ | rintro _ _ ⟨_, _, rfl, rfl⟩)) | with_reducible (first | apply X_regRS (id := 10) | apply X_regR (id := 10) | apply X_seqX (x := .seq (.region 10 _ false) _) | apply X_seqX (x := .seq (.seq (.region 10 _ false) _) _)) | refine X_of _ ?_ | with_reducible (first | exact ⟨_, rfl⟩ | refine And.intro ?_ ?_ | intro _)) <;> try simp -implicitDefEqProofs (maxSteps := 1000000) (disch := first | exact dz0 | fail) only [vcR, vcT, Int.reduceBEq, Int.reduceBNe, Int.reduceEq, Int.reduceNe, Ab.part, Nat.reduceAdd, Nat.reduceMul, Nat.reduceLeDiff, Nat.reduceEqDiff, Nat.reduceBEq, Nat.reduceBNe, reduceCtorEq, ↓reduceIte, implies_true, forall_const, Int.reduceNeg, Int.reduceToNat, Int.reduceLT, Int.reduceLE, Int.reduceAdd, Int.reduceSub, Int.reduceMul, Int.reducePow, Nat.reducePow, true_or, Option.isNone_some, Option.isNone_none, vcXAb26, Try.f20, List.toList_toArray, arr4_zero, nat4_set1, nat4_setL, nat4_set0, e1,e2,e3,e4,e5,e6,litsEq_self]))
  all_goals trace_state
end Go.Proofs.Ythniflakjkbpiaa
