/-
  Package modq's statements: what they share.
-/
import Derived.Test.YthniflakjkbpiaaQ6
import Derived.Test.YthniflakjkbpiaaQ3
import Derived.Test.YthniflakjkbpiaaAb24
import Derived.Test.YthniflakjkbpiaaM8
namespace Go.Proofs.Ythniflakjkbpiaa
open Go Go.Ab
set_option linter.unusedSimpArgs false
set_option linter.unusedVariables false
set_option linter.defProp false
set_option maxHeartbeats 20000000
set_option maxRecDepth 100000


theorem of_good (m : Nat) (hG : OddM m) : NewC Try.prog 39 [.agg (nat4 m)] (fun v H => v = .s (.p 0 0) ∧ H = [⟨78, modS m false⟩]) := by
  have hm := hG.lt
  have h1 := new_good m hG
  have hc := chk_good hG
  clear hG
  (refine newC_of Try.func39 rfl (by simp only [List.length_cons, List.length_nil, List.map_cons, List.map_nil, List.nodup_cons, List.nodup_nil, List.mem_cons, Nat.reduceAdd, Nat.reduceEqDiff, or_false, not_false_eq_true, forall_eq_or_imp, forall_eq, or_self, Nat.reduceLT, Nat.reduceLeDiff, and_self, List.forall_mem_cons, List.not_mem_nil, false_implies, implies_true, and_true, true_and, vcOAb25]) fun w => ?_; simp only [List.length_cons, List.length_nil, Try.ntmps39, Nat.reduceAdd, Nat.reduceSub, List.replicate_succ, List.replicate_zero, List.cons_append, List.nil_append])
  (repeat' ((first | with_reducible (first | apply cF_pure (by assumption) | apply cF_ev (by assumption) | apply cF_pure (rcheck_c _ bd)) | ((with_reducible apply cF_new (by assumption)); (first | rintro _ _ ⟨rfl, rfl⟩ | rintro _ _ ⟨_, _, rfl, rfl⟩)) | refine X_of _ ?_ | with_reducible (first | exact ⟨_, rfl⟩ | refine And.intro ?_ ?_ | intro _)) <;> try simp -implicitDefEqProofs (maxSteps := 1000000) (disch := first | exact dz | fail) only [vcR, vcT, Int.reduceBEq, Int.reduceBNe, Int.reduceEq, Int.reduceNe, Ab.part, Nat.reduceAdd, Nat.reduceMul, Nat.reduceLeDiff, Nat.reduceEqDiff, Nat.reduceBEq, Nat.reduceBNe, reduceCtorEq, ↓reduceIte, implies_true, forall_const, Int.reduceNeg, Int.reduceToNat, Int.reduceLT, Int.reduceLE, Int.reduceAdd, Int.reduceSub, Int.reduceMul, Int.reducePow, Nat.reducePow, true_or, Option.isNone_some, Option.isNone_none, vcXAb25, Try.f39, List.toList_toArray, arr4_zero, nat4_set1, nat4_setL, nat4_set0, hc]))
  refine ⟨[1], .s (.p 0 0), [⟨78, modS m false⟩], ⟨rfl, rfl⟩, by decide, rfl, Nat.lt_succ_self 0, ⟨rfl, trivial⟩, ?_⟩
  simp only [List.mem_singleton, forall_eq]
  exact modS_ok
theorem of_bad (m : Nat) (hm : m < 2 ^ 256) (h : ¬ OddM m) : PureC Try.prog 39 [.agg (nat4 m)] (.s (.v (.pointer none))) := by
  refine pureC_of Try.func39 rfl (by simp only [List.length_cons, List.length_nil, List.map_cons, List.map_nil, List.nodup_cons, List.nodup_nil, List.mem_cons, Nat.reduceAdd, Nat.reduceEqDiff, or_false, not_false_eq_true, forall_eq_or_imp, forall_eq, or_self, Nat.reduceLT, Nat.reduceLeDiff, and_self, List.forall_mem_cons, List.not_mem_nil, false_implies, implies_true, and_true, true_and, vcOAb25]) (by simp only [List.length_cons, List.length_nil, List.map_cons, List.map_nil, List.nodup_cons, List.nodup_nil, List.mem_cons, Nat.reduceAdd, Nat.reduceEqDiff, or_false, not_false_eq_true, forall_eq_or_imp, forall_eq, or_self, Nat.reduceLT, Nat.reduceLeDiff, and_self, List.forall_mem_cons, List.not_mem_nil, false_implies, implies_true, and_true, true_and, vcOAb25]) fun w => ?_
  simp only [List.length_cons, List.length_nil, Try.ntmps39, Nat.reduceAdd, Nat.reduceSub, List.replicate_succ, List.replicate_zero, List.cons_append, List.nil_append]
  rcases chk_bad hm h with hc | hc
  · (repeat' ((first | with_reducible (first | apply cF_pure (by assumption) | apply cF_ev (by assumption) | apply cF_pure (rcheck_c _ bd)) | ((with_reducible apply cF_new (by assumption)); (first | rintro _ _ ⟨rfl, rfl⟩ | rintro _ _ ⟨_, _, rfl, rfl⟩)) | refine X_of _ ?_ | with_reducible (first | exact ⟨_, rfl⟩ | refine And.intro ?_ ?_ | intro _)) <;> try simp -implicitDefEqProofs (maxSteps := 1000000) (disch := first | exact dz | fail) only [vcR, vcT, Int.reduceBEq, Int.reduceBNe, Int.reduceEq, Int.reduceNe, Ab.part, Nat.reduceAdd, Nat.reduceMul, Nat.reduceLeDiff, Nat.reduceEqDiff, Nat.reduceBEq, Nat.reduceBNe, reduceCtorEq, ↓reduceIte, implies_true, forall_const, Int.reduceNeg, Int.reduceToNat, Int.reduceLT, Int.reduceLE, Int.reduceAdd, Int.reduceSub, Int.reduceMul, Int.reducePow, Nat.reducePow, true_or, Option.isNone_some, Option.isNone_none, vcXAb25, Try.f39, List.toList_toArray, arr4_zero, nat4_set1, nat4_setL, nat4_set0, hc]))
  · (repeat' ((first | with_reducible (first | apply cF_pure (by assumption) | apply cF_ev (by assumption) | apply cF_pure (rcheck_c _ bd)) | ((with_reducible apply cF_new (by assumption)); (first | rintro _ _ ⟨rfl, rfl⟩ | rintro _ _ ⟨_, _, rfl, rfl⟩)) | refine X_of _ ?_ | with_reducible (first | exact ⟨_, rfl⟩ | refine And.intro ?_ ?_ | intro _)) <;> try simp -implicitDefEqProofs (maxSteps := 1000000) (disch := first | exact dz | fail) only [vcR, vcT, Int.reduceBEq, Int.reduceBNe, Int.reduceEq, Int.reduceNe, Ab.part, Nat.reduceAdd, Nat.reduceMul, Nat.reduceLeDiff, Nat.reduceEqDiff, Nat.reduceBEq, Nat.reduceBNe, reduceCtorEq, ↓reduceIte, implies_true, forall_const, Int.reduceNeg, Int.reduceToNat, Int.reduceLT, Int.reduceLE, Int.reduceAdd, Int.reduceSub, Int.reduceMul, Int.reducePow, Nat.reducePow, true_or, Option.isNone_some, Option.isNone_none, vcXAb25, Try.f39, List.toList_toArray, arr4_zero, nat4_set1, nat4_setL, nat4_set0, hc]))

theorem ex1 : inv 13 5 = 8 ∧ invE 13 5 = 0 := by
  have h : egc 13 13 (5 % 13) 0 1 = (1, 8) := by simp [egc_step, egc_zero, msub]
  unfold inv invE
  rw [h]
  exact ⟨rfl, rfl⟩
theorem ex2 : inv 13 0 = 0 ∧ invE 13 0 = 11 := by
  have h : egc 13 13 (0 % 13) 0 1 = (13, 0) := egc_zero _ _ _ _
  unfold inv invE
  rw [h]
  exact ⟨rfl, rfl⟩
theorem ex3 : hrn 13 (two 3 2) 2 4 2 = 11 := by decide
theorem ex4 : invE 13 10 = 0 ∧ inv 13 10 = 4 := by
  have h : egc 13 13 (10 % 13) 0 1 = (1, 4) := by simp [egc_step, egc_zero, msub]
  unfold inv invE
  rw [h]
  exact ⟨rfl, rfl⟩
theorem ex5 : invE 13 3 = 0 ∧ inv 13 3 = 9 := by
  have h : egc 13 13 (3 % 13) 0 1 = (1, 9) := by simp [egc_step, egc_zero, msub]
  unfold inv invE
  rw [h]
  exact ⟨rfl, rfl⟩
theorem ex6 : WE 13 (px (four 1 5 4 11)) 2 = 0 := by
  have h : wgE 13 (px (four 1 5 4 11)) 2 0 = 0 := ex5.1
  have h' : wgE 13 (px (four 1 5 4 11)) 2 1 = 0 := ex4.1
  have h0 : wE 13 (px (four 1 5 4 11)) 2 1 = 0 := (if_pos rfl).trans h
  have h1 : wE 13 (px (four 1 5 4 11)) 2 2 = 0 := (if_pos h0).trans h'
  unfold WE
  rw [h1, show sm 13 (px (four 1 5 4 11)) 2 = false by decide]
  rfl
theorem ex7 : atz 13 (four 1 5 4 11) 2 = 3 := by
  have h : wgt 13 (px (four 1 5 4 11)) 2 0 = 10 := by
    show upN 13 (px (four 1 5 4 11)) 0 2 * inv 13 3 % 13 = 10
    rw [ex5.2]
    decide
  have h' : wgt 13 (px (four 1 5 4 11)) 2 1 = 4 := by
    show upN 13 (px (four 1 5 4 11)) 1 2 * inv 13 10 % 13 = 4
    rw [ex4.2]
    decide
  have p0 : prt 13 (four 1 5 4 11) 2 0 = 11 := by
    show 5 * wgt 13 (px (four 1 5 4 11)) 2 0 % 13 = 11
    rw [h]
  have p1 : prt 13 (four 1 5 4 11) 2 1 = 5 := by
    show 11 * wgt 13 (px (four 1 5 4 11)) 2 1 % 13 = 5
    rw [h']
  rw [atz_0 ex6]
  show ((0 + prt 13 (four 1 5 4 11) 2 0) % 13 + prt 13 (four 1 5 4 11) 2 1) % 13 = 3
  rw [p0, p1]
theorem ex8 : WE 13 (px (four 1 5 14 5)) 2 = 13 := by
  unfold WE
  rw [show sm 13 (px (four 1 5 14 5)) 2 = true by decide]
  rfl
theorem ex9 : atz 13 (four 1 5 14 5) 2 = 0 := atz_e (by rw [ex8]; decide)
theorem pt_build (a b : Nat) : setAt (setAt [SV.v (.int .u64 0), .v (.int .u64 0), .v (.int .u64 0), .v (.int .u64 0), .v (.int .u64 0), .v (.int .u64 0), .v (.int .u64 0), .v (.int .u64 0)] 0 (nat4 a)) 4 (nat4 b) = pt a b := rfl
theorem four_lt {a b c d : Nat} (ha : a < 2 ^ 256) (hb : b < 2 ^ 256) (hc : c < 2 ^ 256) (hd : d < 2 ^ 256) (i : Nat) : four a b c d i < 2 ^ 256 := by
  unfold four
  split
  · exact ha
  · split
    · exact hb
    · split
      · exact hc
      · exact hd
theorem pt_len (a : Nat) : (setAt [SV.v (.int .u64 0), .v (.int .u64 0), .v (.int .u64 0), .v (.int .u64 0), .v (.int .u64 0), .v (.int .u64 0), .v (.int .u64 0), .v (.int .u64 0)] 0 (nat4 a)).length = 8 := rfl
theorem two_plen (a b : Nat) : (setAt (arr 16 fun _ => 0) 0 (pt a b)).length = 16 := rfl
theorem two_pts (a b c d : Nat) : setAt (setAt (arr 16 fun _ => 0) 0 (pt a b)) 8 (pt c d) = nats 4 (four a b c d) := rfl


theorem qawake_c : PureC Try.prog 38 [] (.s (.v (.bool true))) := by
  have hG := odd13
  have h3 := new_good 13 hG
  have hz2 : slice0 Try.prog 24 2 = some (arr 8 fun _ => 0) := by kernel_rfl
  have hzp : slice0 Try.prog 53 2 = some (arr 16 fun _ => 0) := by kernel_rfl
  refine pureC_of Try.func38 rfl (by simp only [List.length_cons, List.length_nil, List.map_cons, List.map_nil, List.nodup_cons, List.nodup_nil, List.mem_cons, Nat.reduceAdd, Nat.reduceEqDiff, or_false, not_false_eq_true, forall_eq_or_imp, forall_eq, or_self, Nat.reduceLT, Nat.reduceLeDiff, and_self, List.forall_mem_cons, List.not_mem_nil, false_implies, implies_true, and_true, true_and, vcOAb25]) (by simp only [List.length_cons, List.length_nil, List.map_cons, List.map_nil, List.nodup_cons, List.nodup_nil, List.mem_cons, Nat.reduceAdd, Nat.reduceEqDiff, or_false, not_false_eq_true, forall_eq_or_imp, forall_eq, or_self, Nat.reduceLT, Nat.reduceLeDiff, and_self, List.forall_mem_cons, List.not_mem_nil, false_implies, implies_true, and_true, true_and, vcOAb25]) fun w => ?_
  simp only [List.length_cons, List.length_nil, Try.ntmps38, Nat.reduceAdd, Nat.reduceSub, List.replicate_succ, List.replicate_zero, List.cons_append, List.nil_append]
  have hi5 := fun k => inverse_e k 13 5 hG (by decide)
  have hi0 := fun k => inverse_e k 13 0 hG (by decide)
  rw [ex1.1, ex1.2] at hi5
  rw [ex2.1, ex2.2] at hi0
  have e1 := ex3
  have e2 := ex6
  have e3 := ex7
  have e4 := ex8
  have e5 := ex9
  (repeat' ((first | ((refine X_mod 0 [] rfl (by decide) (by decide) ?_ ?_ ?_ ?_); (next => (with_reducible assumption)); (next => (simp)); (next => (simp [pickH_cons, pickH_nil, consH_some])); (intro β1 w1 hM1)) | with_reducible (first | apply XR_cons | apply XR_consG | apply XR_nil | apply cF_pure (by assumption) | apply cF_ev (by assumption)) | ((with_reducible apply cF_new (by assumption)); (first | rintro _ _ ⟨rfl, rfl⟩ | rintro _ _ ⟨_, _, rfl, rfl⟩)) | with_reducible (first | apply X_regRS (id := 4) | apply X_regR (id := 4) | apply X_seqX (x := .seq (.region 4 _ false) _) | apply X_seqX (x := .seq (.seq (.region 4 _ false) _) _) | apply X_regRS (id := 5) | apply X_regR (id := 5) | apply X_seqX (x := .seq (.region 5 _ false) _) | apply X_seqX (x := .seq (.seq (.region 5 _ false) _) _) | apply X_regRS (id := 6) | apply X_regR (id := 6) | apply X_seqX (x := .seq (.region 6 _ false) _) | apply X_seqX (x := .seq (.seq (.region 6 _ false) _) _) | apply X_regRS (id := 7) | apply X_regR (id := 7) | apply X_seqX (x := .seq (.region 7 _ false) _) | apply X_seqX (x := .seq (.seq (.region 7 _ false) _) _) | apply X_regRS (id := 8) | apply X_regR (id := 8) | apply X_seqX (x := .seq (.region 8 _ false) _) | apply X_seqX (x := .seq (.seq (.region 8 _ false) _) _) | apply X_regRS (id := 9) | apply X_regR (id := 9) | apply X_seqX (x := .seq (.region 9 _ false) _) | apply X_seqX (x := .seq (.seq (.region 9 _ false) _) _)) | refine X_of _ ?_ | with_reducible (first | exact ⟨_, rfl⟩ | refine And.intro ?_ ?_ | intro _)) <;> try simp -implicitDefEqProofs (maxSteps := 1000000) (disch := first | exact dz | fail) only [vcR, vcT, Int.reduceBEq, Int.reduceBNe, Int.reduceEq, Int.reduceNe, Ab.part, Nat.reduceAdd, Nat.reduceMul, Nat.reduceLeDiff, Nat.reduceEqDiff, Nat.reduceBEq, Nat.reduceBNe, reduceCtorEq, ↓reduceIte, implies_true, forall_const, Int.reduceNeg, Int.reduceToNat, Int.reduceLT, Int.reduceLE, Int.reduceAdd, Int.reduceSub, Int.reduceMul, Int.reducePow, Nat.reducePow, true_or, Option.isNone_some, Option.isNone_none, vcXAb25, Try.f38, List.toList_toArray, arr4_zero, nat4_set1, nat4_setL, nat4_set0]))
  replace hi5 := hi5 (β1 0)
  replace hi0 := hi0 (β1 0)
  have hev := fun ad => eval_e (β1 0) 13 (some ad) 2 2 (two 3 2) 4 hG (fun j => by unfold two; split <;> decide) (by decide) (by decide)
  have haz := fun ad => atzero_e (β1 0) 13 (some ad) 2 2 (four 1 5 4 11) hG (four_lt (by decide) (by decide) (by decide) (by decide)) (by decide)
  have haz' := fun ad => atzero_e (β1 0) 13 (some ad) 2 2 (four 1 5 14 5) hG (four_lt (by decide) (by decide) (by decide) (by decide)) (by decide)
  rw [e1] at hev
  rw [e2, e3] at haz
  rw [e4, e5] at haz'
  (repeat' ((first | with_reducible (first | apply XR_cons | apply XR_consG | apply XR_nil | apply cF_pure (by assumption) | apply cF_ev (by assumption)) | ((with_reducible apply cF_new (by assumption)); (first | rintro _ _ ⟨rfl, rfl⟩ | rintro _ _ ⟨_, _, rfl, rfl⟩)) | with_reducible (first | apply X_regRS (id := 4) | apply X_regR (id := 4) | apply X_seqX (x := .seq (.region 4 _ false) _) | apply X_seqX (x := .seq (.seq (.region 4 _ false) _) _) | apply X_regRS (id := 5) | apply X_regR (id := 5) | apply X_seqX (x := .seq (.region 5 _ false) _) | apply X_seqX (x := .seq (.seq (.region 5 _ false) _) _) | apply X_regRS (id := 6) | apply X_regR (id := 6) | apply X_seqX (x := .seq (.region 6 _ false) _) | apply X_seqX (x := .seq (.seq (.region 6 _ false) _) _) | apply X_regRS (id := 7) | apply X_regR (id := 7) | apply X_seqX (x := .seq (.region 7 _ false) _) | apply X_seqX (x := .seq (.seq (.region 7 _ false) _) _) | apply X_regRS (id := 8) | apply X_regR (id := 8) | apply X_seqX (x := .seq (.region 8 _ false) _) | apply X_seqX (x := .seq (.seq (.region 8 _ false) _) _) | apply X_regRS (id := 9) | apply X_regR (id := 9) | apply X_seqX (x := .seq (.region 9 _ false) _) | apply X_seqX (x := .seq (.seq (.region 9 _ false) _) _)) | refine X_of _ ?_ | with_reducible (first | exact ⟨_, rfl⟩ | refine And.intro ?_ ?_ | intro _)) <;> try simp -implicitDefEqProofs (maxSteps := 1000000) (disch := first | exact dz | fail) only [vcR, vcT, Int.reduceBEq, Int.reduceBNe, Int.reduceEq, Int.reduceNe, Ab.part, Nat.reduceAdd, Nat.reduceMul, Nat.reduceLeDiff, Nat.reduceEqDiff, Nat.reduceBEq, Nat.reduceBNe, reduceCtorEq, ↓reduceIte, implies_true, forall_const, Int.reduceNeg, Int.reduceToNat, Int.reduceLT, Int.reduceLE, Int.reduceAdd, Int.reduceSub, Int.reduceMul, Int.reducePow, Nat.reducePow, true_or, Option.isNone_some, Option.isNone_none, vcXAb25, Try.f38, List.toList_toArray, arr4_zero, nat4_set1, nat4_setL, nat4_set0, st_bs,xbs_some,hz2,two_set,two_len]))
  refine yF_evz (fun β w' hR => ⟨_, hev ⟨β 2, 0, none⟩, hM1 w' hR.fr.to, natsAt_own0 hR rfl (by decide)⟩) rfl rfl (by kernel_rfl) ?_
  try simp -implicitDefEqProofs (maxSteps := 1000000) (disch := first | exact dz | fail) only [vcR, vcT, Int.reduceBEq, Int.reduceBNe, Int.reduceEq, Int.reduceNe, Ab.part, Nat.reduceAdd, Nat.reduceMul, Nat.reduceLeDiff, Nat.reduceEqDiff, Nat.reduceBEq, Nat.reduceBNe, reduceCtorEq, ↓reduceIte, implies_true, forall_const, Int.reduceNeg, Int.reduceToNat, Int.reduceLT, Int.reduceLE, Int.reduceAdd, Int.reduceSub, Int.reduceMul, Int.reducePow, Nat.reducePow, true_or, Option.isNone_some, Option.isNone_none, vcXAb25, Try.f38, List.toList_toArray]
  (repeat' ((first | with_reducible (first | apply XR_cons | apply XR_consG | apply XR_nil | apply cF_pure (by assumption) | apply cF_ev (by assumption)) | ((with_reducible apply cF_new (by assumption)); (first | rintro _ _ ⟨rfl, rfl⟩ | rintro _ _ ⟨_, _, rfl, rfl⟩)) | with_reducible (first | apply X_regRS (id := 4) | apply X_regR (id := 4) | apply X_seqX (x := .seq (.region 4 _ false) _) | apply X_seqX (x := .seq (.seq (.region 4 _ false) _) _) | apply X_regRS (id := 5) | apply X_regR (id := 5) | apply X_seqX (x := .seq (.region 5 _ false) _) | apply X_seqX (x := .seq (.seq (.region 5 _ false) _) _) | apply X_regRS (id := 6) | apply X_regR (id := 6) | apply X_seqX (x := .seq (.region 6 _ false) _) | apply X_seqX (x := .seq (.seq (.region 6 _ false) _) _) | apply X_regRS (id := 7) | apply X_regR (id := 7) | apply X_seqX (x := .seq (.region 7 _ false) _) | apply X_seqX (x := .seq (.seq (.region 7 _ false) _) _) | apply X_regRS (id := 8) | apply X_regR (id := 8) | apply X_seqX (x := .seq (.region 8 _ false) _) | apply X_seqX (x := .seq (.seq (.region 8 _ false) _) _) | apply X_regRS (id := 9) | apply X_regR (id := 9) | apply X_seqX (x := .seq (.region 9 _ false) _) | apply X_seqX (x := .seq (.seq (.region 9 _ false) _) _)) | refine X_of _ ?_ | with_reducible (first | exact ⟨_, rfl⟩ | refine And.intro ?_ ?_ | intro _)) <;> try simp -implicitDefEqProofs (maxSteps := 1000000) (disch := first | exact dz | fail) only [vcR, vcT, Int.reduceBEq, Int.reduceBNe, Int.reduceEq, Int.reduceNe, Ab.part, Nat.reduceAdd, Nat.reduceMul, Nat.reduceLeDiff, Nat.reduceEqDiff, Nat.reduceBEq, Nat.reduceBNe, reduceCtorEq, ↓reduceIte, implies_true, forall_const, Int.reduceNeg, Int.reduceToNat, Int.reduceLT, Int.reduceLE, Int.reduceAdd, Int.reduceSub, Int.reduceMul, Int.reducePow, Nat.reducePow, true_or, Option.isNone_some, Option.isNone_none, vcXAb25, Try.f38, List.toList_toArray, arr4_zero, nat4_set1, nat4_setL, nat4_set0, st_bs,xbs_some,hzp,pt_build,pt_len,two_plen,two_pts]))
  refine yF_evz (fun β w' hR => ⟨_, haz ⟨β 4, 0, none⟩, hM1 w' hR.fr.to, natsAt_own0 hR rfl (by decide)⟩) rfl rfl (by kernel_rfl) ?_
  try simp -implicitDefEqProofs (maxSteps := 1000000) (disch := first | exact dz | fail) only [vcR, vcT, Int.reduceBEq, Int.reduceBNe, Int.reduceEq, Int.reduceNe, Ab.part, Nat.reduceAdd, Nat.reduceMul, Nat.reduceLeDiff, Nat.reduceEqDiff, Nat.reduceBEq, Nat.reduceBNe, reduceCtorEq, ↓reduceIte, implies_true, forall_const, Int.reduceNeg, Int.reduceToNat, Int.reduceLT, Int.reduceLE, Int.reduceAdd, Int.reduceSub, Int.reduceMul, Int.reducePow, Nat.reducePow, true_or, Option.isNone_some, Option.isNone_none, vcXAb25, Try.f38, List.toList_toArray]
  (repeat' ((first | with_reducible (first | apply XR_cons | apply XR_consG | apply XR_nil | apply cF_pure (by assumption) | apply cF_ev (by assumption)) | ((with_reducible apply cF_new (by assumption)); (first | rintro _ _ ⟨rfl, rfl⟩ | rintro _ _ ⟨_, _, rfl, rfl⟩)) | with_reducible (first | apply X_regRS (id := 4) | apply X_regR (id := 4) | apply X_seqX (x := .seq (.region 4 _ false) _) | apply X_seqX (x := .seq (.seq (.region 4 _ false) _) _) | apply X_regRS (id := 5) | apply X_regR (id := 5) | apply X_seqX (x := .seq (.region 5 _ false) _) | apply X_seqX (x := .seq (.seq (.region 5 _ false) _) _) | apply X_regRS (id := 6) | apply X_regR (id := 6) | apply X_seqX (x := .seq (.region 6 _ false) _) | apply X_seqX (x := .seq (.seq (.region 6 _ false) _) _) | apply X_regRS (id := 7) | apply X_regR (id := 7) | apply X_seqX (x := .seq (.region 7 _ false) _) | apply X_seqX (x := .seq (.seq (.region 7 _ false) _) _) | apply X_regRS (id := 8) | apply X_regR (id := 8) | apply X_seqX (x := .seq (.region 8 _ false) _) | apply X_seqX (x := .seq (.seq (.region 8 _ false) _) _) | apply X_regRS (id := 9) | apply X_regR (id := 9) | apply X_seqX (x := .seq (.region 9 _ false) _) | apply X_seqX (x := .seq (.seq (.region 9 _ false) _) _)) | refine X_of _ ?_ | with_reducible (first | exact ⟨_, rfl⟩ | refine And.intro ?_ ?_ | intro _)) <;> try simp -implicitDefEqProofs (maxSteps := 1000000) (disch := first | exact dz | fail) only [vcR, vcT, Int.reduceBEq, Int.reduceBNe, Int.reduceEq, Int.reduceNe, Ab.part, Nat.reduceAdd, Nat.reduceMul, Nat.reduceLeDiff, Nat.reduceEqDiff, Nat.reduceBEq, Nat.reduceBNe, reduceCtorEq, ↓reduceIte, implies_true, forall_const, Int.reduceNeg, Int.reduceToNat, Int.reduceLT, Int.reduceLE, Int.reduceAdd, Int.reduceSub, Int.reduceMul, Int.reducePow, Nat.reducePow, true_or, Option.isNone_some, Option.isNone_none, vcXAb25, Try.f38, List.toList_toArray, arr4_zero, nat4_set1, nat4_setL, nat4_set0, st_bs,xbs_some,hzp,pt_build,pt_len,two_plen,two_pts]))
  refine yF_evz (fun β w' hR => ⟨_, haz' ⟨β 6, 0, none⟩, hM1 w' hR.fr.to, natsAt_own0 hR rfl (by decide)⟩) rfl rfl (by kernel_rfl) ?_
  try simp -implicitDefEqProofs (maxSteps := 1000000) (disch := first | exact dz | fail) only [vcR, vcT, Int.reduceBEq, Int.reduceBNe, Int.reduceEq, Int.reduceNe, Ab.part, Nat.reduceAdd, Nat.reduceMul, Nat.reduceLeDiff, Nat.reduceEqDiff, Nat.reduceBEq, Nat.reduceBNe, reduceCtorEq, ↓reduceIte, implies_true, forall_const, Int.reduceNeg, Int.reduceToNat, Int.reduceLT, Int.reduceLE, Int.reduceAdd, Int.reduceSub, Int.reduceMul, Int.reducePow, Nat.reducePow, true_or, Option.isNone_some, Option.isNone_none, vcXAb25, Try.f38, List.toList_toArray]
  (repeat' ((first | with_reducible (first | apply XR_cons | apply XR_consG | apply XR_nil | apply cF_pure (by assumption) | apply cF_ev (by assumption)) | ((with_reducible apply cF_new (by assumption)); (first | rintro _ _ ⟨rfl, rfl⟩ | rintro _ _ ⟨_, _, rfl, rfl⟩)) | with_reducible (first | apply X_regRS (id := 4) | apply X_regR (id := 4) | apply X_seqX (x := .seq (.region 4 _ false) _) | apply X_seqX (x := .seq (.seq (.region 4 _ false) _) _) | apply X_regRS (id := 5) | apply X_regR (id := 5) | apply X_seqX (x := .seq (.region 5 _ false) _) | apply X_seqX (x := .seq (.seq (.region 5 _ false) _) _) | apply X_regRS (id := 6) | apply X_regR (id := 6) | apply X_seqX (x := .seq (.region 6 _ false) _) | apply X_seqX (x := .seq (.seq (.region 6 _ false) _) _) | apply X_regRS (id := 7) | apply X_regR (id := 7) | apply X_seqX (x := .seq (.region 7 _ false) _) | apply X_seqX (x := .seq (.seq (.region 7 _ false) _) _) | apply X_regRS (id := 8) | apply X_regR (id := 8) | apply X_seqX (x := .seq (.region 8 _ false) _) | apply X_seqX (x := .seq (.seq (.region 8 _ false) _) _) | apply X_regRS (id := 9) | apply X_regR (id := 9) | apply X_seqX (x := .seq (.region 9 _ false) _) | apply X_seqX (x := .seq (.seq (.region 9 _ false) _) _)) | refine X_of _ ?_ | with_reducible (first | exact ⟨_, rfl⟩ | refine And.intro ?_ ?_ | intro _)) <;> try simp -implicitDefEqProofs (maxSteps := 1000000) (disch := first | exact dz | fail) only [vcR, vcT, Int.reduceBEq, Int.reduceBNe, Int.reduceEq, Int.reduceNe, Ab.part, Nat.reduceAdd, Nat.reduceMul, Nat.reduceLeDiff, Nat.reduceEqDiff, Nat.reduceBEq, Nat.reduceBNe, reduceCtorEq, ↓reduceIte, implies_true, forall_const, Int.reduceNeg, Int.reduceToNat, Int.reduceLT, Int.reduceLE, Int.reduceAdd, Int.reduceSub, Int.reduceMul, Int.reducePow, Nat.reducePow, true_or, Option.isNone_some, Option.isNone_none, vcXAb25, Try.f38, List.toList_toArray, arr4_zero, nat4_set1, nat4_setL, nat4_set0, litsEq_self]))
end Go.Proofs.Ythniflakjkbpiaa
