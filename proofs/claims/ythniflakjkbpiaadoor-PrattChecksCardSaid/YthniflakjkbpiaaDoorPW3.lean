/-
  Package pratt's statements: they answer true.
-/
import Derived.Test.YthniflakjkbpiaaDoorPa9
import Derived.Test.YthniflakjkbpiaaDoorPa7
namespace Go.Proofs.YthniflakjkbpiaaDoor
open Go Go.Ab
set_option linter.unusedSimpArgs false
set_option linter.unusedVariables false
set_option linter.defProp false
set_option maxHeartbeats 20000000
set_option maxRecDepth 100000


theorem prattChecks_m (x : Option Addr) (m c : Nat) (l : Nat → Pf) (hl : PfOk l) (hm : m < 9223372036854775808) (n : Nat) (hn : n < 2 ^ 256) :
    PureM Tryd.prog 5 [.s (.v (.slice x m c)), .agg (nat4 n)] (fun w => prfs x m l w ∧ least w) (.s (.v (.bool true))) := by
  have haw := pawake_m.ev (V := Evo.none)
  have hck := (prcheck_m x m c l hl hm).ev (V := Evo.none)
  have hpv := (proves_m x m c l n hl hm hn).ev (V := Evo.none)
  have hrc := (rcheck_m x m c l hl hm).ev (V := Evo.none)
  have hrp := (rproves_m x m c l n hl hm hn).ev (V := Evo.none)
  have hsh := (short_m x m c l hl hm).ev (V := Evo.none)
  obtain ⟨e, he⟩ : ∃ e, ckS l m = e := ⟨_, rfl⟩
  obtain ⟨f, hf⟩ : ∃ f, pvS l m n = f := ⟨_, rfl⟩
  obtain ⟨few, hfew⟩ : ∃ few, shS l m = few := ⟨_, rfl⟩
  rw [he] at hck hrc
  rw [hf] at hpv hrp
  rw [hfew] at hsh
  (refine pureM_of Tryd.func5 rfl (by simp only [List.length_cons, List.length_nil, List.map_cons, List.map_nil, List.nodup_cons, List.nodup_nil, List.mem_cons, Nat.reduceAdd, Nat.reduceEqDiff, or_false, not_false_eq_true, forall_eq_or_imp, forall_eq, or_self, Nat.reduceLT, Nat.reduceLeDiff, and_self, List.forall_mem_cons, List.not_mem_nil, false_implies, implies_true, and_true, true_and, vcOPb]) (by simp only [List.length_cons, List.length_nil, List.map_cons, List.map_nil, List.nodup_cons, List.nodup_nil, List.mem_cons, Nat.reduceAdd, Nat.reduceEqDiff, or_false, not_false_eq_true, forall_eq_or_imp, forall_eq, or_self, Nat.reduceLT, Nat.reduceLeDiff, and_self, List.forall_mem_cons, List.not_mem_nil, false_implies, implies_true, and_true, true_and, vcOPb]) fun w hpre => ?_; simp only [List.length_cons, List.length_nil, Tryd.ntmps5, Nat.reduceAdd, Nat.reduceSub, List.replicate_succ, List.replicate_zero, List.cons_append, List.nil_append])
  have hP0 : Kn (ctx0 Tryd.prog w) fun _ w => prfs x m l w := (prfs_kn hpre.1).prfs0
  have hL := (least_kn (P0 := Tryd.prog) hpre.2).least0
  have hPL : Kn (ctx0 Tryd.prog w) fun _ w => prfs x m l w ∧ least w := fun w' hw' => ⟨hP0 w' hw', hL w' hw'⟩
  clear hpre
  cases few with
  | true => (repeat' ((first | with_reducible (first | apply XR_cons | apply XR_consG | apply XR_nil | apply cF_pure1 (by assumption) | apply cF_ev1 (by assumption)) | with_reducible (first | apply X_regRS (id := 7) | apply X_regR (id := 7) | apply X_seqX (x := .seq (.region 7 _ false) _) | apply X_seqX (x := .seq (.seq (.region 7 _ false) _) _)) | refine X_of _ ?_ | with_reducible (first | exact ⟨_, rfl⟩ | refine And.intro ?_ ?_ | intro _)) <;> try simp -implicitDefEqProofs (maxSteps := 1000000) (disch := first | exact dz1 | fail) only [vcR, vcT, Int.reduceBEq, Int.reduceBNe, Int.reduceEq, Int.reduceNe, Ab.part, Nat.reduceAdd, Nat.reduceMul, Nat.reduceLeDiff, Nat.reduceEqDiff, Nat.reduceBEq, Nat.reduceBNe, reduceCtorEq, ↓reduceIte, implies_true, forall_const, Int.reduceNeg, Int.reduceToNat, Int.reduceLT, Int.reduceLE, Int.reduceAdd, Int.reduceSub, Int.reduceMul, Int.reducePow, Nat.reducePow, true_or, Option.isNone_some, Option.isNone_none, vcXPb, Tryd.f5, List.toList_toArray, arr4_zero, nat4_set1, nat4_setL, nat4_set0, beq_self_eq_true]))
  | false => (repeat' ((first | with_reducible (first | apply XR_cons | apply XR_consG | apply XR_nil | apply cF_pure1 (by assumption) | apply cF_ev1 (by assumption)) | with_reducible (first | apply X_regRS (id := 7) | apply X_regR (id := 7) | apply X_seqX (x := .seq (.region 7 _ false) _) | apply X_seqX (x := .seq (.seq (.region 7 _ false) _) _)) | refine X_of _ ?_ | with_reducible (first | exact ⟨_, rfl⟩ | refine And.intro ?_ ?_ | intro _)) <;> try simp -implicitDefEqProofs (maxSteps := 1000000) (disch := first | exact dz1 | fail) only [vcR, vcT, Int.reduceBEq, Int.reduceBNe, Int.reduceEq, Int.reduceNe, Ab.part, Nat.reduceAdd, Nat.reduceMul, Nat.reduceLeDiff, Nat.reduceEqDiff, Nat.reduceBEq, Nat.reduceBNe, reduceCtorEq, ↓reduceIte, implies_true, forall_const, Int.reduceNeg, Int.reduceToNat, Int.reduceLT, Int.reduceLE, Int.reduceAdd, Int.reduceSub, Int.reduceMul, Int.reducePow, Nat.reducePow, true_or, Option.isNone_some, Option.isNone_none, vcXPb, Tryd.f5, List.toList_toArray, arr4_zero, nat4_set1, nat4_setL, nat4_set0]))
end Go.Proofs.YthniflakjkbpiaaDoor
