/-
  pratt: a map of numbers that are proved.
-/
import Derived.Test.YthniflakjkbpiaaDoorPb
import Derived.Test.YthniflakjkbpiaaDoorAb29
import Derived.Test.YthniflakjkbpiaaDoorPv
namespace Go.Proofs.YthniflakjkbpiaaDoor
open Go Go.Ab
set_option linter.unusedSimpArgs false
set_option linter.unusedVariables false
set_option linter.defProp false
set_option maxHeartbeats 20000000
set_option maxRecDepth 100000

theorem mapTy : MapTy Tryd.prog 61 26 3 where
  m := by kernel_rfl
  row := by kernel_rfl
  kk := by kernel_rfl
  lit n _ := litsA_arr tf26_u (by kernel_rfl : Tryd.prog.underlying 24 = some (.int .u64)) (by kernel_rfl) (by kernel_rfl) fun i _ => wd_lt n i
  zero := by kernel_rfl
theorem look_z {Γ : Ctx} {b n : Nat} {p : Nat → Bool} {mt kt et : TypeId} (M : MapTy Γ.P mt kt et) (hno : ¬ Γ.own b) (hA : Kn Γ fun _ w => MapAt b p w) (hn : n < 2 ^ 256) :
    ∃ z : Int, ∀ (H : Heap) (T : List TV) (m k : Operand), ev T m = .s (.v (.map (some b))) → ev T k = .agg (nat4 n) → Sound Γ (.lookup mt m k true) (ev T) H (.tup [.s (.v (.int .i64 z)), .s (.v (.bool (p n)))]) .none := by
  obtain ⟨es, c, hb, hp⟩ := hA _ (FrP.now Γ)
  obtain ⟨z, hz⟩ := run_look (b := b) (c := c) M hp hn
  refine ⟨z, fun H T m k hm hk o β ρ w ho hρ hR => ?_⟩
  have hsame : w.heap[b]? = some (.map es c) := by
    have hlt := (Array.getElem?_eq_some_iff.1 hb).1
    rcases hR.fr.blk b hlt with h1 | h1 | ⟨_, o1, o2, h2, _, h4⟩
    · exact absurd h1 hno
    · exact h1.trans hb
    · rw [hb] at h2
      injection h2 with h2
      obtain ⟨c', t', f', he, _⟩ := Γ.ev.ofE _ _ h4
      rw [← h2] at he
      cases he
  have e1 : ρ m = .map (some b) := by rw [hρ, hm]; rfl
  have e2 : ρ k = natV n := by rw [hρ, hk, natV_conc]
  simp [Does, execOp, ho, e1, e2, hz w hsame, Result.andThen, conc_tup, AV.conc, SV.conc]


theorem has_m (b n : Nat) (p : Nat → Bool) (hn : n < 2 ^ 256) : PureM Tryd.prog 35 [.s (.v (.map (some b))), .agg (nat4 n)] (fun w => MapAt b p w) (.s (.v (.bool (p n)))) := by
  (refine pureM_of Tryd.func35 rfl (by simp only [List.length_cons, List.length_nil, List.map_cons, List.map_nil, List.nodup_cons, List.nodup_nil, List.mem_cons, Nat.reduceAdd, Nat.reduceEqDiff, or_false, not_false_eq_true, forall_eq_or_imp, forall_eq, or_self, Nat.reduceLT, Nat.reduceLeDiff, and_self, List.forall_mem_cons, List.not_mem_nil, false_implies, implies_true, and_true, true_and, vcOPb]) (by simp only [List.length_cons, List.length_nil, List.map_cons, List.map_nil, List.nodup_cons, List.nodup_nil, List.mem_cons, Nat.reduceAdd, Nat.reduceEqDiff, or_false, not_false_eq_true, forall_eq_or_imp, forall_eq, or_self, Nat.reduceLT, Nat.reduceLeDiff, and_self, List.forall_mem_cons, List.not_mem_nil, false_implies, implies_true, and_true, true_and, vcOPb]) fun w hpre => ?_; simp only [List.length_cons, List.length_nil, Tryd.ntmps35, Nat.reduceAdd, Nat.reduceSub, List.replicate_succ, List.replicate_zero, List.cons_append, List.nil_append])
  have hA : Kn (ctx0 Tryd.prog w) fun _ w => MapAt b p w := kn0_law (stays_map Evo.none b p) hpre
  obtain ⟨z, hz⟩ := look_z (Γ := ctx0 Tryd.prog w) mapTy (fun h => h) hA hn
  (iterate 2 ((first | with_reducible (first | apply XR_cons | apply XR_consG | apply XR_nil | apply cF_pure1 (by assumption)) | with_reducible (first | apply X_regRS (id := 1) | apply X_regR (id := 1) | apply X_seqX (x := .seq (.region 1 _ false) _) | apply X_seqX (x := .seq (.seq (.region 1 _ false) _) _)) | refine X_of _ ?_ | with_reducible (first | exact ⟨_, rfl⟩ | refine And.intro ?_ ?_ | intro _)) <;> try simp -implicitDefEqProofs (maxSteps := 1000000) (disch := first | exact dz1 | fail) only [vcR, vcT, Int.reduceBEq, Int.reduceBNe, Int.reduceEq, Int.reduceNe, Ab.part, Nat.reduceAdd, Nat.reduceMul, Nat.reduceLeDiff, Nat.reduceEqDiff, Nat.reduceBEq, Nat.reduceBNe, reduceCtorEq, ↓reduceIte, implies_true, forall_const, Int.reduceNeg, Int.reduceToNat, Int.reduceLT, Int.reduceLE, Int.reduceAdd, Int.reduceSub, Int.reduceMul, Int.reducePow, Nat.reducePow, true_or, Option.isNone_some, Option.isNone_none, vcXPb, Tryd.f35, List.toList_toArray, arr4_zero, nat4_set1, nat4_setL, nat4_set0]))
  refine XR_cons ?_
  try simp -implicitDefEqProofs (maxSteps := 1000000) (disch := first | exact dz1 | fail) only [vcR, vcT, Int.reduceBEq, Int.reduceBNe, Int.reduceEq, Int.reduceNe, Ab.part, Nat.reduceAdd, Nat.reduceMul, Nat.reduceLeDiff, Nat.reduceEqDiff, Nat.reduceBEq, Nat.reduceBNe, reduceCtorEq, ↓reduceIte, implies_true, forall_const, Int.reduceNeg, Int.reduceToNat, Int.reduceLT, Int.reduceLE, Int.reduceAdd, Int.reduceSub, Int.reduceMul, Int.reducePow, Nat.reducePow, true_or, Option.isNone_some, Option.isNone_none, vcXPb, Tryd.f35, List.toList_toArray]
  refine XR_cons ?_
  try simp -implicitDefEqProofs (maxSteps := 1000000) (disch := first | exact dz1 | fail) only [vcR, vcT, Int.reduceBEq, Int.reduceBNe, Int.reduceEq, Int.reduceNe, Ab.part, Nat.reduceAdd, Nat.reduceMul, Nat.reduceLeDiff, Nat.reduceEqDiff, Nat.reduceBEq, Nat.reduceBNe, reduceCtorEq, ↓reduceIte, implies_true, forall_const, Int.reduceNeg, Int.reduceToNat, Int.reduceLT, Int.reduceLE, Int.reduceAdd, Int.reduceSub, Int.reduceMul, Int.reducePow, Nat.reducePow, true_or, Option.isNone_some, Option.isNone_none, vcXPb, Tryd.f35, List.toList_toArray]
  refine XR_law (hz _ _ _ _ rfl rfl) ?_
  try simp -implicitDefEqProofs (maxSteps := 1000000) (disch := first | exact dz1 | fail) only [vcR, vcT, Int.reduceBEq, Int.reduceBNe, Int.reduceEq, Int.reduceNe, Ab.part, Nat.reduceAdd, Nat.reduceMul, Nat.reduceLeDiff, Nat.reduceEqDiff, Nat.reduceBEq, Nat.reduceBNe, reduceCtorEq, ↓reduceIte, implies_true, forall_const, Int.reduceNeg, Int.reduceToNat, Int.reduceLT, Int.reduceLE, Int.reduceAdd, Int.reduceSub, Int.reduceMul, Int.reducePow, Nat.reducePow, true_or, Option.isNone_some, Option.isNone_none, vcXPb, Tryd.f35, List.toList_toArray]
  (repeat' ((first | with_reducible (first | apply XR_cons | apply XR_consG | apply XR_nil | apply cF_pure1 (by assumption)) | with_reducible (first | apply X_regRS (id := 1) | apply X_regR (id := 1) | apply X_seqX (x := .seq (.region 1 _ false) _) | apply X_seqX (x := .seq (.seq (.region 1 _ false) _) _)) | refine X_of _ ?_ | with_reducible (first | exact ⟨_, rfl⟩ | refine And.intro ?_ ?_ | intro _)) <;> try simp -implicitDefEqProofs (maxSteps := 1000000) (disch := first | exact dz1 | fail) only [vcR, vcT, Int.reduceBEq, Int.reduceBNe, Int.reduceEq, Int.reduceNe, Ab.part, Nat.reduceAdd, Nat.reduceMul, Nat.reduceLeDiff, Nat.reduceEqDiff, Nat.reduceBEq, Nat.reduceBNe, reduceCtorEq, ↓reduceIte, implies_true, forall_const, Int.reduceNeg, Int.reduceToNat, Int.reduceLT, Int.reduceLE, Int.reduceAdd, Int.reduceSub, Int.reduceMul, Int.reducePow, Nat.reducePow, true_or, Option.isNone_some, Option.isNone_none, vcXPb, Tryd.f35, List.toList_toArray, arr4_zero, nat4_set1, nat4_setL, nat4_set0]))
end Go.Proofs.YthniflakjkbpiaaDoor
