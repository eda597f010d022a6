/-
  Package pratt's statements: they answer true.
-/
import Derived.Test.YthniflakjkbpiaaDoorPa9
import Derived.Test.YthniflakjkbpiaaDoorPa4
namespace Go.Proofs.YthniflakjkbpiaaDoor
open Go Go.Ab
set_option linter.unusedSimpArgs false
set_option linter.unusedVariables false
set_option linter.defProp false
set_option maxHeartbeats 20000000
set_option maxRecDepth 100000

theorem own_one {Γ : Ctx} {H : Heap} {β : Nat → Nat} {w : World} {t j : Nat} {p : Pf} (hR : Rep Γ H β w) (hb : H[j]? = some ⟨t, prf p.N p.G (.v (.slice p.y p.n p.c))⟩) (hf : facs p.y p.n p.P p.E w) : prfs (some ⟨β j, 0, none⟩) 1 (fun _ => p) w :=
  prfs_own hR hb (fun q hq => by
    rcases q with _ | _ | _ | _ | _ | _ | _ | _ | _ | q
    all_goals first | rfl | omega) fun _ _ => hf


theorem prattSteps_m (p : Pf) (hN : p.N < 2 ^ 256) (hG : p.G < 2 ^ 256) (hP : ∀ i, p.P i < 2 ^ 256) (hE : ∀ i, -9223372036854775808 ≤ p.E i ∧ p.E i < 9223372036854775808) (hn : p.n < 9223372036854775808) :
    PureM Tryd.prog 4 [.agg (prf p.N p.G (.v (.slice p.y p.n p.c)))] (fun w => facs p.y p.n p.P p.E w ∧ least w) (.s (.v (.bool true))) := by
  have haw := pawake_m.ev (V := Evo.none)
  have hst := (step_m p.N p.G p.y p.n p.c p.P p.E hN hG hP hE hn).ev (V := Evo.none)
  have hrs := (rstep_m p.N p.G p.y p.n p.c p.P p.E hN hG hP hE hn).ev (V := Evo.none)
  obtain ⟨e, he⟩ : ∃ e, stS p.N p.G p.n p.P p.E = e := ⟨_, rfl⟩
  rw [he] at hst hrs
  have hsh := fun x => (short_m x 1 1 (fun _ => p) ⟨fun _ => hN, fun _ => hG, fun _ => hP, fun _ => hE, fun _ => hn⟩ (by decide)).ev (V := Evo.none)
  obtain ⟨few, hfew⟩ : ∃ few, shS (fun _ => p) 1 = few := ⟨_, rfl⟩
  rw [hfew] at hsh
  (refine pureM_of Tryd.func4 rfl (by simp only [List.length_cons, List.length_nil, List.map_cons, List.map_nil, List.nodup_cons, List.nodup_nil, List.mem_cons, Nat.reduceAdd, Nat.reduceEqDiff, or_false, not_false_eq_true, forall_eq_or_imp, forall_eq, or_self, Nat.reduceLT, Nat.reduceLeDiff, and_self, List.forall_mem_cons, List.not_mem_nil, false_implies, implies_true, and_true, true_and, vcOPb]) (by simp only [List.length_cons, List.length_nil, List.map_cons, List.map_nil, List.nodup_cons, List.nodup_nil, List.mem_cons, Nat.reduceAdd, Nat.reduceEqDiff, or_false, not_false_eq_true, forall_eq_or_imp, forall_eq, or_self, Nat.reduceLT, Nat.reduceLeDiff, and_self, List.forall_mem_cons, List.not_mem_nil, false_implies, implies_true, and_true, true_and, vcOPb]) fun w hpre => ?_; simp only [List.length_cons, List.length_nil, Tryd.ntmps4, Nat.reduceAdd, Nat.reduceSub, List.replicate_succ, List.replicate_zero, List.cons_append, List.nil_append])
  have hF0 : Kn (ctx0 Tryd.prog w) fun _ w => facs p.y p.n p.P p.E w := (facs_kn hpre.1).facs0
  have hL := (least_kn (P0 := Tryd.prog) hpre.2).least0
  have hFL : Kn (ctx0 Tryd.prog w) fun _ w => facs p.y p.n p.P p.E w ∧ least w := fun w' hw' => ⟨hF0 w' hw', hL w' hw'⟩
  clear hpre hN hG hP hE hn
  (repeat' ((first | with_reducible (first | apply XR_cons | apply XR_consG | apply XR_nil | apply cF_pure1 (by assumption) | apply cF_ev1 (by assumption)) | with_reducible (first | apply X_regRS (id := 6) | apply X_regR (id := 6) | apply X_seqX (x := .seq (.region 6 _ false) _) | apply X_seqX (x := .seq (.seq (.region 6 _ false) _) _)) | refine X_of _ ?_ | with_reducible (first | exact ⟨_, rfl⟩ | refine And.intro ?_ ?_ | intro _)) <;> try simp -implicitDefEqProofs (maxSteps := 1000000) (disch := first | exact dz1 | fail) only [vcR, vcT, Int.reduceBEq, Int.reduceBNe, Int.reduceEq, Int.reduceNe, Ab.part, Nat.reduceAdd, Nat.reduceMul, Nat.reduceLeDiff, Nat.reduceEqDiff, Nat.reduceBEq, Nat.reduceBNe, reduceCtorEq, ↓reduceIte, implies_true, forall_const, Int.reduceNeg, Int.reduceToNat, Int.reduceLT, Int.reduceLE, Int.reduceAdd, Int.reduceSub, Int.reduceMul, Int.reducePow, Nat.reducePow, true_or, Option.isNone_some, Option.isNone_none, vcXPb, Tryd.f4, List.toList_toArray, arr4_zero, nat4_set1, nat4_setL, nat4_set0, st_bs,xbs_some,hzp1,prfr]))
  refine yF_evz (fun β' w' hR => ⟨_, hsh (some ⟨β' 1, 0, none⟩), own_one hR rfl (hF0 w' hR.fr.to)⟩) rfl rfl (by kernel_rfl) ?_
  try simp -implicitDefEqProofs (maxSteps := 1000000) (disch := first | exact dz1 | fail) only [vcR, vcT, Int.reduceBEq, Int.reduceBNe, Int.reduceEq, Int.reduceNe, Ab.part, Nat.reduceAdd, Nat.reduceMul, Nat.reduceLeDiff, Nat.reduceEqDiff, Nat.reduceBEq, Nat.reduceBNe, reduceCtorEq, ↓reduceIte, implies_true, forall_const, Int.reduceNeg, Int.reduceToNat, Int.reduceLT, Int.reduceLE, Int.reduceAdd, Int.reduceSub, Int.reduceMul, Int.reducePow, Nat.reducePow, true_or, Option.isNone_some, Option.isNone_none, vcXPb, Tryd.f4, List.toList_toArray]
  cases few with
  | true => (repeat' ((first | with_reducible (first | apply XR_cons | apply XR_consG | apply XR_nil | apply cF_pure1 (by assumption) | apply cF_ev1 (by assumption)) | with_reducible (first | apply X_regRS (id := 6) | apply X_regR (id := 6) | apply X_seqX (x := .seq (.region 6 _ false) _) | apply X_seqX (x := .seq (.seq (.region 6 _ false) _) _)) | refine X_of _ ?_ | with_reducible (first | exact ⟨_, rfl⟩ | refine And.intro ?_ ?_ | intro _)) <;> try simp -implicitDefEqProofs (maxSteps := 1000000) (disch := first | exact dz1 | fail) only [vcR, vcT, Int.reduceBEq, Int.reduceBNe, Int.reduceEq, Int.reduceNe, Ab.part, Nat.reduceAdd, Nat.reduceMul, Nat.reduceLeDiff, Nat.reduceEqDiff, Nat.reduceBEq, Nat.reduceBNe, reduceCtorEq, ↓reduceIte, implies_true, forall_const, Int.reduceNeg, Int.reduceToNat, Int.reduceLT, Int.reduceLE, Int.reduceAdd, Int.reduceSub, Int.reduceMul, Int.reducePow, Nat.reducePow, true_or, Option.isNone_some, Option.isNone_none, vcXPb, Tryd.f4, List.toList_toArray, arr4_zero, nat4_set1, nat4_setL, nat4_set0, beq_self_eq_true]))
  | false => (repeat' ((first | with_reducible (first | apply XR_cons | apply XR_consG | apply XR_nil | apply cF_pure1 (by assumption) | apply cF_ev1 (by assumption)) | with_reducible (first | apply X_regRS (id := 6) | apply X_regR (id := 6) | apply X_seqX (x := .seq (.region 6 _ false) _) | apply X_seqX (x := .seq (.seq (.region 6 _ false) _) _)) | refine X_of _ ?_ | with_reducible (first | exact ⟨_, rfl⟩ | refine And.intro ?_ ?_ | intro _)) <;> try simp -implicitDefEqProofs (maxSteps := 1000000) (disch := first | exact dz1 | fail) only [vcR, vcT, Int.reduceBEq, Int.reduceBNe, Int.reduceEq, Int.reduceNe, Ab.part, Nat.reduceAdd, Nat.reduceMul, Nat.reduceLeDiff, Nat.reduceEqDiff, Nat.reduceBEq, Nat.reduceBNe, reduceCtorEq, ↓reduceIte, implies_true, forall_const, Int.reduceNeg, Int.reduceToNat, Int.reduceLT, Int.reduceLE, Int.reduceAdd, Int.reduceSub, Int.reduceMul, Int.reducePow, Nat.reducePow, true_or, Option.isNone_some, Option.isNone_none, vcXPb, Tryd.f4, List.toList_toArray, arr4_zero, nat4_set1, nat4_setL, nat4_set0]))
end Go.Proofs.YthniflakjkbpiaaDoor
