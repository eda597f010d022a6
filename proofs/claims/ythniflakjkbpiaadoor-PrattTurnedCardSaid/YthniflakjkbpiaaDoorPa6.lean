/-
  pratt: is a list one, and what it proves.
-/
import Derived.Test.YthniflakjkbpiaaDoorPa5
import Derived.Test.YthniflakjkbpiaaDoorAb30
namespace Go.Proofs.YthniflakjkbpiaaDoor
open Go Go.Ab
set_option linter.unusedSimpArgs false
set_option linter.unusedVariables false
set_option linter.defProp false
set_option maxHeartbeats 20000000
set_option maxRecDepth 100000

def CkV (l : Nat → Pf) (m : Nat) (v : TV) (A : World → Prop) : Prop :=
  ∃ b p, v = .tup [.s (.v (.map (some b))), .s (.v (.int .i64 (ckS l m)))] ∧ A = MapAt b p ∧ (ckS l m = 0 → p = knS l m)
theorem check_in {Γ : Ctx} {x : Option Addr} {m c : Nat} {l : Nat → Pf} (hl : PfOk l) (hm : m < 9223372036854775808) (hP : Γ.P = Tryd.prog) (h1 : Kn Γ fun _ w => prfs x m l w) (h2 : Kn Γ fun _ w => least w) {H : Heap} :
    ∀ β w, Rep Γ H β w → True → Calls Γ.P 34 ([TV.s (.v (.slice x m c))].map (TV.conc β)).toArray w fun e w' => ∃ v A', CkV l m v A' ∧ A' w' ∧ (∀ β', e = .returned (v.conc β')) ∧ Ext Γ.ev Γ.B w w' := by
  intro β w hR _
  have h := check_c x m c l hl hm w (h1 w hR.fr.to) (h2 w hR.fr.to)
  rw [hP]
  refine h.mono ?_
  rintro e w' ⟨v, H', A', β', ⟨b, p, hb, rfl, hA, hk⟩, hA', hR', he⟩
  refine ⟨_, A', ⟨b, p, rfl, hA, hk⟩, hA', fun β'' => ?_, Ext.of_below (below_of_rep0 hR')⟩
  rw [he β' (.refl _ _)]
  rfl


theorem prcheck_m (x : Option Addr) (m c : Nat) (l : Nat → Pf) (hl : PfOk l) (hm : m < 9223372036854775808) :
    PureM Tryd.prog 16 [.s (.v (.slice x m c))] (fun w => prfs x m l w ∧ least w) (.s (.v (.int .i64 (ckS l m)))) := by
  refine pureM_ofA Tryd.func16 rfl (by simp only [List.length_cons, List.length_nil, List.map_cons, List.map_nil, List.nodup_cons, List.nodup_nil, List.mem_cons, Nat.reduceAdd, Nat.reduceEqDiff, or_false, not_false_eq_true, forall_eq_or_imp, forall_eq, or_self, Nat.reduceLT, Nat.reduceLeDiff, and_self, List.forall_mem_cons, List.not_mem_nil, false_implies, implies_true, and_true, true_and, vcOPb]) (by simp only [List.length_cons, List.length_nil, List.map_cons, List.map_nil, List.nodup_cons, List.nodup_nil, List.mem_cons, Nat.reduceAdd, Nat.reduceEqDiff, or_false, not_false_eq_true, forall_eq_or_imp, forall_eq, or_self, Nat.reduceLT, Nat.reduceLeDiff, and_self, List.forall_mem_cons, List.not_mem_nil, false_implies, implies_true, and_true, true_and, vcOPb]) fun w hpre => ?_
  simp only [List.length_cons, List.length_nil, Tryd.ntmps16, Nat.reduceAdd, Nat.reduceSub, List.replicate_succ, List.replicate_zero, List.cons_append, List.nil_append]
  have h1 := (prfs_kn (P0 := Tryd.prog) hpre.1).prfs0
  have h2 := (least_kn (P0 := Tryd.prog) hpre.2).least0
  clear hpre
  refine XA_seq (XA_X [] steady_true rfl (by simp) (by simp) fun β1 w1 hR1 hA1 hK1 => ?_)
  (repeat' ((first | with_reducible (first | apply cF_pure1 (by assumption) | apply cF_ev1 (by assumption)) | refine X_of _ ?_ | with_reducible (first | exact ⟨_, rfl⟩ | refine And.intro ?_ ?_ | intro _)) <;> try simp -implicitDefEqProofs (maxSteps := 1000000) (disch := first | exact dz1 | fail) only [vcR, vcT, Int.reduceBEq, Int.reduceBNe, Int.reduceEq, Int.reduceNe, Ab.part, Nat.reduceAdd, Nat.reduceMul, Nat.reduceLeDiff, Nat.reduceEqDiff, Nat.reduceBEq, Nat.reduceBNe, reduceCtorEq, ↓reduceIte, implies_true, forall_const, Int.reduceNeg, Int.reduceToNat, Int.reduceLT, Int.reduceLE, Int.reduceAdd, Int.reduceSub, Int.reduceMul, Int.reducePow, Nat.reducePow, true_or, Option.isNone_some, Option.isNone_none, vcXPb, Tryd.f16, List.toList_toArray, arr4_zero, nat4_set1, nat4_setL, nat4_set0, seqA_n]))
  clear hR1 hA1 hK1 β1 w1
  refine XA_seq (XA_reg ?_)
  refine XAR_step [] steady_true rfl (by simp) (by simp) fun β2 w2 hR2 hA2 hK2 => ?_
  try simp -implicitDefEqProofs (maxSteps := 1000000) (disch := first | exact dz1 | fail) only [vcR, vcT, Int.reduceBEq, Int.reduceBNe, Int.reduceEq, Int.reduceNe, Ab.part, Nat.reduceAdd, Nat.reduceMul, Nat.reduceLeDiff, Nat.reduceEqDiff, Nat.reduceBEq, Nat.reduceBNe, reduceCtorEq, ↓reduceIte, implies_true, forall_const, Int.reduceNeg, Int.reduceToNat, Int.reduceLT, Int.reduceLE, Int.reduceAdd, Int.reduceSub, Int.reduceMul, Int.reducePow, Nat.reducePow, true_or, Option.isNone_some, Option.isNone_none, vcXPb, Tryd.f16, List.toList_toArray]
  clear hK2 hA2 hR2 w2 β2
  refine XAR_call rfl rfl (by kernel_rfl) (check_in hl hm rfl h1 h2) ?_
  rintro _ _ ⟨b, p, rfl, rfl, hk⟩
  try simp -implicitDefEqProofs (maxSteps := 1000000) (disch := first | exact dz1 | fail) only [vcR, vcT, Int.reduceBEq, Int.reduceBNe, Int.reduceEq, Int.reduceNe, Ab.part, Nat.reduceAdd, Nat.reduceMul, Nat.reduceLeDiff, Nat.reduceEqDiff, Nat.reduceBEq, Nat.reduceBNe, reduceCtorEq, ↓reduceIte, implies_true, forall_const, Int.reduceNeg, Int.reduceToNat, Int.reduceLT, Int.reduceLE, Int.reduceAdd, Int.reduceSub, Int.reduceMul, Int.reducePow, Nat.reducePow, true_or, Option.isNone_some, Option.isNone_none, vcXPb, Tryd.f16, List.toList_toArray]
  iterate 5 (refine XAR_step [] (steady_map _ _) rfl (by simp) (by simp) fun β2 w2 hR2 hA2 hK2 => ?_; try simp -implicitDefEqProofs (maxSteps := 1000000) (disch := first | exact dz1 | fail) only [vcR, vcT, Int.reduceBEq, Int.reduceBNe, Int.reduceEq, Int.reduceNe, Ab.part, Nat.reduceAdd, Nat.reduceMul, Nat.reduceLeDiff, Nat.reduceEqDiff, Nat.reduceBEq, Nat.reduceBNe, reduceCtorEq, ↓reduceIte, implies_true, forall_const, Int.reduceNeg, Int.reduceToNat, Int.reduceLT, Int.reduceLE, Int.reduceAdd, Int.reduceSub, Int.reduceMul, Int.reducePow, Nat.reducePow, true_or, Option.isNone_some, Option.isNone_none, vcXPb, Tryd.f16, List.toList_toArray]; clear hK2 hA2 hR2 w2 β2)
  refine XAR_nil ?_
  try simp -implicitDefEqProofs (maxSteps := 1000000) (disch := first | exact dz1 | fail) only [vcR, vcT, Int.reduceBEq, Int.reduceBNe, Int.reduceEq, Int.reduceNe, Ab.part, Nat.reduceAdd, Nat.reduceMul, Nat.reduceLeDiff, Nat.reduceEqDiff, Nat.reduceBEq, Nat.reduceBNe, reduceCtorEq, ↓reduceIte, implies_true, forall_const, Int.reduceNeg, Int.reduceToNat, Int.reduceLT, Int.reduceLE, Int.reduceAdd, Int.reduceSub, Int.reduceMul, Int.reducePow, Nat.reducePow, true_or, Option.isNone_some, Option.isNone_none, vcXPb, Tryd.f16, List.toList_toArray, seqA_n]
  refine XA_X [] (steady_map _ _) rfl (by simp) (by simp) fun β1 w1 hR1 hA1 hK1 => ?_
  (repeat' ((first | with_reducible (first | apply cF_pure1 (by assumption) | apply cF_ev1 (by assumption)) | refine X_of _ ?_ | with_reducible (first | exact ⟨_, rfl⟩ | refine And.intro ?_ ?_ | intro _)) <;> try simp -implicitDefEqProofs (maxSteps := 1000000) (disch := first | exact dz1 | fail) only [vcR, vcT, Int.reduceBEq, Int.reduceBNe, Int.reduceEq, Int.reduceNe, Ab.part, Nat.reduceAdd, Nat.reduceMul, Nat.reduceLeDiff, Nat.reduceEqDiff, Nat.reduceBEq, Nat.reduceBNe, reduceCtorEq, ↓reduceIte, implies_true, forall_const, Int.reduceNeg, Int.reduceToNat, Int.reduceLT, Int.reduceLE, Int.reduceAdd, Int.reduceSub, Int.reduceMul, Int.reducePow, Nat.reducePow, true_or, Option.isNone_some, Option.isNone_none, vcXPb, Tryd.f16, List.toList_toArray, arr4_zero, nat4_set1, nat4_setL, nat4_set0, retA_n,retA_r]))


theorem proves_m (x : Option Addr) (m c : Nat) (l : Nat → Pf) (n : Nat) (hl : PfOk l) (hm : m < 9223372036854775808) (hn : n < 2 ^ 256) :
    PureM Tryd.prog 17 [.s (.v (.slice x m c)), .agg (nat4 n)] (fun w => prfs x m l w ∧ least w) (.s (.v (.int .i64 (pvS l m n)))) := by
  obtain ⟨r, hr⟩ : ∃ r, pvS l m n = r := ⟨_, rfl⟩
  rw [hr]
  refine pureM_ofA Tryd.func17 rfl (by simp only [List.length_cons, List.length_nil, List.map_cons, List.map_nil, List.nodup_cons, List.nodup_nil, List.mem_cons, Nat.reduceAdd, Nat.reduceEqDiff, or_false, not_false_eq_true, forall_eq_or_imp, forall_eq, or_self, Nat.reduceLT, Nat.reduceLeDiff, and_self, List.forall_mem_cons, List.not_mem_nil, false_implies, implies_true, and_true, true_and, vcOPb]) (by simp only [List.length_cons, List.length_nil, List.map_cons, List.map_nil, List.nodup_cons, List.nodup_nil, List.mem_cons, Nat.reduceAdd, Nat.reduceEqDiff, or_false, not_false_eq_true, forall_eq_or_imp, forall_eq, or_self, Nat.reduceLT, Nat.reduceLeDiff, and_self, List.forall_mem_cons, List.not_mem_nil, false_implies, implies_true, and_true, true_and, vcOPb]) fun w hpre => ?_
  simp only [List.length_cons, List.length_nil, Tryd.ntmps17, Nat.reduceAdd, Nat.reduceSub, List.replicate_succ, List.replicate_zero, List.cons_append, List.nil_append]
  have h1 := (prfs_kn (P0 := Tryd.prog) hpre.1).prfs0
  have h2 := (least_kn (P0 := Tryd.prog) hpre.2).least0
  clear hpre
  refine XA_seq (XA_X [] steady_true rfl (by simp) (by simp) fun β1 w1 hR1 hA1 hK1 => ?_)
  (repeat' ((first | with_reducible (first | apply XR_cons | apply XR_consG | apply XR_nil | apply cF_pure1 (by assumption) | apply cF_ev1 (by assumption)) | with_reducible (first | apply X_regRS (id := 2) | apply X_regR (id := 2) | apply X_seqX (x := .seq (.region 2 _ false) _) | apply X_seqX (x := .seq (.seq (.region 2 _ false) _) _)) | refine X_of _ ?_ | with_reducible (first | exact ⟨_, rfl⟩ | refine And.intro ?_ ?_ | intro _)) <;> try simp -implicitDefEqProofs (maxSteps := 1000000) (disch := first | exact dz1 | fail) only [vcR, vcT, Int.reduceBEq, Int.reduceBNe, Int.reduceEq, Int.reduceNe, Ab.part, Nat.reduceAdd, Nat.reduceMul, Nat.reduceLeDiff, Nat.reduceEqDiff, Nat.reduceBEq, Nat.reduceBNe, reduceCtorEq, ↓reduceIte, implies_true, forall_const, Int.reduceNeg, Int.reduceToNat, Int.reduceLT, Int.reduceLE, Int.reduceAdd, Int.reduceSub, Int.reduceMul, Int.reducePow, Nat.reducePow, true_or, Option.isNone_some, Option.isNone_none, vcXPb, Tryd.f17, List.toList_toArray, arr4_zero, nat4_set1, nat4_setL, nat4_set0, seqA_n]))
  clear hR1 hA1 hK1 β1 w1
  refine XA_seq (XA_reg ?_)
  refine XAR_step [0] steady_true rfl (by simp) (by simp) fun β2 w2 hR2 hA2 hK2 => ?_
  try simp -implicitDefEqProofs (maxSteps := 1000000) (disch := first | exact dz1 | fail) only [vcR, vcT, Int.reduceBEq, Int.reduceBNe, Int.reduceEq, Int.reduceNe, Ab.part, Nat.reduceAdd, Nat.reduceMul, Nat.reduceLeDiff, Nat.reduceEqDiff, Nat.reduceBEq, Nat.reduceBNe, reduceCtorEq, ↓reduceIte, implies_true, forall_const, Int.reduceNeg, Int.reduceToNat, Int.reduceLT, Int.reduceLE, Int.reduceAdd, Int.reduceSub, Int.reduceMul, Int.reducePow, Nat.reducePow, true_or, Option.isNone_some, Option.isNone_none, vcXPb, Tryd.f17, List.toList_toArray]
  clear hK2 hA2 hR2 w2 β2
  refine XAR_call rfl rfl (by kernel_rfl) (check_in hl hm rfl h1 h2) ?_
  rintro _ _ ⟨b, p, rfl, rfl, hk⟩
  try simp -implicitDefEqProofs (maxSteps := 1000000) (disch := first | exact dz1 | fail) only [vcR, vcT, Int.reduceBEq, Int.reduceBNe, Int.reduceEq, Int.reduceNe, Ab.part, Nat.reduceAdd, Nat.reduceMul, Nat.reduceLeDiff, Nat.reduceEqDiff, Nat.reduceBEq, Nat.reduceBNe, reduceCtorEq, ↓reduceIte, implies_true, forall_const, Int.reduceNeg, Int.reduceToNat, Int.reduceLT, Int.reduceLE, Int.reduceAdd, Int.reduceSub, Int.reduceMul, Int.reducePow, Nat.reducePow, true_or, Option.isNone_some, Option.isNone_none, vcXPb, Tryd.f17, List.toList_toArray]
  iterate 5 (refine XAR_step [0] (steady_map _ _) rfl (by simp) (by simp) fun β2 w2 hR2 hA2 hK2 => ?_; try simp -implicitDefEqProofs (maxSteps := 1000000) (disch := first | exact dz1 | fail) only [vcR, vcT, Int.reduceBEq, Int.reduceBNe, Int.reduceEq, Int.reduceNe, Ab.part, Nat.reduceAdd, Nat.reduceMul, Nat.reduceLeDiff, Nat.reduceEqDiff, Nat.reduceBEq, Nat.reduceBNe, reduceCtorEq, ↓reduceIte, implies_true, forall_const, Int.reduceNeg, Int.reduceToNat, Int.reduceLT, Int.reduceLE, Int.reduceAdd, Int.reduceSub, Int.reduceMul, Int.reducePow, Nat.reducePow, true_or, Option.isNone_some, Option.isNone_none, vcXPb, Tryd.f17, List.toList_toArray]; clear hK2 hA2 hR2 w2 β2)
  refine XAR_nil ?_
  try simp -implicitDefEqProofs (maxSteps := 1000000) (disch := first | exact dz1 | fail) only [vcR, vcT, Int.reduceBEq, Int.reduceBNe, Int.reduceEq, Int.reduceNe, Ab.part, Nat.reduceAdd, Nat.reduceMul, Nat.reduceLeDiff, Nat.reduceEqDiff, Nat.reduceBEq, Nat.reduceBNe, reduceCtorEq, ↓reduceIte, implies_true, forall_const, Int.reduceNeg, Int.reduceToNat, Int.reduceLT, Int.reduceLE, Int.reduceAdd, Int.reduceSub, Int.reduceMul, Int.reducePow, Nat.reducePow, true_or, Option.isNone_some, Option.isNone_none, vcXPb, Tryd.f17, List.toList_toArray, seqA_n]
  refine XA_X [0] (steady_map _ _) rfl (by simp) (by simp) fun β1 w1 hR1 hA1 hK1 => ?_
  have hhas := (has_m b n p hn).ev (V := Evo.none)
  by_cases hc : ckS l m = 0
  · have hp := hk hc
    subst hp
    have hr' : (if knS l m n then 0 else 20) = r := by
      rw [← hr]
      unfold pvS
      rw [if_neg (show ¬ ckS l m ≠ 0 from fun h => h hc)]
    rw [hc]
    cases hz : knS l m n with
    | true =>
      rw [hz] at hhas hr'
      have hr'' : r = 0 := hr'.symm
      subst hr''
      (repeat' ((first | with_reducible (first | apply XR_cons | apply XR_consG | apply XR_nil | apply cF_pure1 (by assumption) | apply cF_ev1 (by assumption)) | with_reducible (first | apply X_regRS (id := 2) | apply X_regR (id := 2) | apply X_seqX (x := .seq (.region 2 _ false) _) | apply X_seqX (x := .seq (.seq (.region 2 _ false) _) _)) | refine X_of _ ?_ | with_reducible (first | exact ⟨_, rfl⟩ | refine And.intro ?_ ?_ | intro _)) <;> try simp -implicitDefEqProofs (maxSteps := 1000000) (disch := first | exact dz1 | fail) only [vcR, vcT, Int.reduceBEq, Int.reduceBNe, Int.reduceEq, Int.reduceNe, Ab.part, Nat.reduceAdd, Nat.reduceMul, Nat.reduceLeDiff, Nat.reduceEqDiff, Nat.reduceBEq, Nat.reduceBNe, reduceCtorEq, ↓reduceIte, implies_true, forall_const, Int.reduceNeg, Int.reduceToNat, Int.reduceLT, Int.reduceLE, Int.reduceAdd, Int.reduceSub, Int.reduceMul, Int.reducePow, Nat.reducePow, true_or, Option.isNone_some, Option.isNone_none, vcXPb, Tryd.f17, List.toList_toArray, arr4_zero, nat4_set1, nat4_setL, nat4_set0, retA_n,retA_r,beq_self_eq_true]))
    | false =>
      rw [hz] at hhas hr'
      have hr'' : r = 20 := hr'.symm
      subst hr''
      (repeat' ((first | with_reducible (first | apply XR_cons | apply XR_consG | apply XR_nil | apply cF_pure1 (by assumption) | apply cF_ev1 (by assumption)) | with_reducible (first | apply X_regRS (id := 2) | apply X_regR (id := 2) | apply X_seqX (x := .seq (.region 2 _ false) _) | apply X_seqX (x := .seq (.seq (.region 2 _ false) _) _)) | refine X_of _ ?_ | with_reducible (first | exact ⟨_, rfl⟩ | refine And.intro ?_ ?_ | intro _)) <;> try simp -implicitDefEqProofs (maxSteps := 1000000) (disch := first | exact dz1 | fail) only [vcR, vcT, Int.reduceBEq, Int.reduceBNe, Int.reduceEq, Int.reduceNe, Ab.part, Nat.reduceAdd, Nat.reduceMul, Nat.reduceLeDiff, Nat.reduceEqDiff, Nat.reduceBEq, Nat.reduceBNe, reduceCtorEq, ↓reduceIte, implies_true, forall_const, Int.reduceNeg, Int.reduceToNat, Int.reduceLT, Int.reduceLE, Int.reduceAdd, Int.reduceSub, Int.reduceMul, Int.reducePow, Nat.reducePow, true_or, Option.isNone_some, Option.isNone_none, vcXPb, Tryd.f17, List.toList_toArray, arr4_zero, nat4_set1, nat4_setL, nat4_set0, retA_n,retA_r,beq_self_eq_true]))
  · have hc' : (ckS l m == 0) = false := by rw [beq_eq_false_iff_ne]; exact hc
    have hr' : ckS l m = r := by
      rw [← hr]
      unfold pvS
      rw [if_pos hc]
    rw [hr'] at hc' ⊢
    (repeat' ((first | with_reducible (first | apply XR_cons | apply XR_consG | apply XR_nil | apply cF_pure1 (by assumption) | apply cF_ev1 (by assumption)) | with_reducible (first | apply X_regRS (id := 2) | apply X_regR (id := 2) | apply X_seqX (x := .seq (.region 2 _ false) _) | apply X_seqX (x := .seq (.seq (.region 2 _ false) _) _)) | refine X_of _ ?_ | with_reducible (first | exact ⟨_, rfl⟩ | refine And.intro ?_ ?_ | intro _)) <;> try simp -implicitDefEqProofs (maxSteps := 1000000) (disch := first | exact dz1 | fail) only [vcR, vcT, Int.reduceBEq, Int.reduceBNe, Int.reduceEq, Int.reduceNe, Ab.part, Nat.reduceAdd, Nat.reduceMul, Nat.reduceLeDiff, Nat.reduceEqDiff, Nat.reduceBEq, Nat.reduceBNe, reduceCtorEq, ↓reduceIte, implies_true, forall_const, Int.reduceNeg, Int.reduceToNat, Int.reduceLT, Int.reduceLE, Int.reduceAdd, Int.reduceSub, Int.reduceMul, Int.reducePow, Nat.reducePow, true_or, Option.isNone_some, Option.isNone_none, vcXPb, Tryd.f17, List.toList_toArray, arr4_zero, nat4_set1, nat4_setL, nat4_set0, retA_n,retA_r,hc']))
end Go.Proofs.YthniflakjkbpiaaDoor
