/-
  Package pratt's statements: they answer true.
-/
import Derived.Test.YthniflakjkbpiaaDoorPW4
namespace Go.Proofs.YthniflakjkbpiaaDoor
open Go Go.Ab
set_option linter.unusedSimpArgs false
set_option linter.unusedVariables false
set_option linter.defProp false
set_option maxHeartbeats 20000000
set_option maxRecDepth 100000

theorem pv_own {l : Nat → Pf} {m i : Nat} (h : i < m) : pvS l m (l i).N = ckS l m := by
  by_cases hc : ckS l m = 0
  · rw [pvS_kn hc]
    have : knS l m (l i).N = true := by
      unfold knS
      have h2 : (anyB m fun j => (l j).N == (l i).N) = true := anyB_iff.2 ⟨i, h, beq_self_eq_true _⟩
      rw [h2, Bool.or_true]
    rw [this, hc]
    rfl
  · exact pvS_ne hc
theorem wdlow (m : Nat) : wd m 0 % 2 = m % 2 := by simp only [wd]; omega


theorem prattOdd_m (x : Option Addr) (m c : Nat) (l : Nat → Pf) (hl : PfOk l) (hm : m < 9223372036854775808) (n : Nat) (hn : n < 2 ^ 256) :
    PureM Tryd.prog 9 [.s (.v (.slice x m c)), .agg (nat4 n)] (fun w => prfs x m l w ∧ least w) (.s (.v (.bool true))) := by
  have haw := pawake_m.ev (V := Evo.none)
  have hck := (prcheck_m x m c l hl hm).ev (V := Evo.none)
  have hpv := (proves_m x m c l n hl hm hn).ev (V := Evo.none)
  have hsh := (short_m x m c l hl hm).ev (V := Evo.none)
  have h2 : PureC Tryd.prog 21 [.s (.v (.int .u64 2))] (.agg (nat4 2)) := lnat_c 2 (by decide)
  have h1 : PureC Tryd.prog 21 [.s (.v (.int .u64 1))] (.agg (nat4 1)) := lnat_c 1 (by decide)
  obtain ⟨few, hfew⟩ : ∃ few, shS l m = few := ⟨_, rfl⟩
  rw [hfew] at hsh
  have hown := fun i (hi : i < m) => (proves_m x m c l (l i).N hl hm (hl.N i)).ev (V := Evo.none)
  have hodd := fun h => odd_of_known (ckS_ok (l := l) (m := m) (pvS_ok (n := n) h).1).2 n (pvS_ok h).2
  obtain ⟨f, hf⟩ : ∃ f, pvS l m n = f := ⟨_, rfl⟩
  obtain ⟨e, he⟩ : ∃ e, ckS l m = e := ⟨_, rfl⟩
  rw [hf] at hpv
  rw [he] at hck
  have hl2 : litsEq (lits 4 (wd n)) (lits 4 (wd 2)) = decide (n = 2) := litsEq_nat4 hn (by decide)
  have hl1 : litsEq (lits 4 (wd n)) (lits 4 (wd 1)) = decide (n = 1) := litsEq_nat4 hn (by decide)
  have hw := wdlow n
  obtain ⟨w0, hw0⟩ : ∃ w0, wd n 0 = w0 := ⟨_, rfl⟩
  rw [hw0] at hw
  (refine pureM_of Tryd.func9 rfl (by simp only [List.length_cons, List.length_nil, List.map_cons, List.map_nil, List.nodup_cons, List.nodup_nil, List.mem_cons, Nat.reduceAdd, Nat.reduceEqDiff, or_false, not_false_eq_true, forall_eq_or_imp, forall_eq, or_self, Nat.reduceLT, Nat.reduceLeDiff, and_self, List.forall_mem_cons, List.not_mem_nil, false_implies, implies_true, and_true, true_and, vcOPb]) (by simp only [List.length_cons, List.length_nil, List.map_cons, List.map_nil, List.nodup_cons, List.nodup_nil, List.mem_cons, Nat.reduceAdd, Nat.reduceEqDiff, or_false, not_false_eq_true, forall_eq_or_imp, forall_eq, or_self, Nat.reduceLT, Nat.reduceLeDiff, and_self, List.forall_mem_cons, List.not_mem_nil, false_implies, implies_true, and_true, true_and, vcOPb]) fun w hpre => ?_; simp only [List.length_cons, List.length_nil, Tryd.ntmps9, Nat.reduceAdd, Nat.reduceSub, List.replicate_succ, List.replicate_zero, List.cons_append, List.nil_append])
  have hP0 : Kn (ctx0 Tryd.prog w) fun _ w => prfs x m l w := (prfs_kn hpre.1).prfs0
  have hP1 := prfs_kn (P0 := Tryd.prog) hpre.1
  have hL := (least_kn (P0 := Tryd.prog) hpre.2).least0
  have hPL : Kn (ctx0 Tryd.prog w) fun _ w => prfs x m l w ∧ least w := fun w' hw' => ⟨hP0 w' hw', hL w' hw'⟩
  have hadr : m ≠ 0 → ∃ ad, x = some ad := fun h => by
    rcases hpre.1.1 with h0 | ⟨ad, h0, _⟩
    · omega
    · exact ⟨ad, h0⟩
  clear hpre
  cases few with
  | false => (repeat' ((first | with_reducible (first | apply XQ_cons | apply XQ_consG | apply XQ_nil | apply XR_cons | apply XR_consG | apply XR_nil | apply cF_pure1 (by assumption) | apply cV_pure1 (by assumption) | apply cF_ev1 (by assumption) | apply cV_ev1 (by assumption)) | with_reducible (first | apply X_regRS (id := 12) | apply X_regR (id := 12) | apply X_seqX (x := .seq (.region 12 _ false) _) | apply X_seqX (x := .seq (.seq (.region 12 _ false) _) _)) | (with_reducible apply X_drawC (id := 7) 18; (next => (kernel_rfl)); (next => (kernel_rfl))) | refine X_of _ ?_ | with_reducible (first | exact ⟨_, rfl⟩ | refine And.intro ?_ ?_ | intro _)) <;> try simp -implicitDefEqProofs (maxSteps := 1000000) (disch := first | exact dz1 | fail) only [vcR, vcT, Int.reduceBEq, Int.reduceBNe, Int.reduceEq, Int.reduceNe, Ab.part, Nat.reduceAdd, Nat.reduceMul, Nat.reduceLeDiff, Nat.reduceEqDiff, Nat.reduceBEq, Nat.reduceBNe, reduceCtorEq, ↓reduceIte, implies_true, forall_const, Int.reduceNeg, Int.reduceToNat, Int.reduceLT, Int.reduceLE, Int.reduceAdd, Int.reduceSub, Int.reduceMul, Int.reducePow, Nat.reducePow, true_or, Option.isNone_some, Option.isNone_none, vcXPb, Tryd.f9, List.toList_toArray, arr4_zero, nat4_set1, nat4_setL, nat4_set0]))
  | true =>
    have hcase : (f ≠ 0) ∨ (f = 0 ∧ n = 2) ∨ (f = 0 ∧ n ≠ 2 ∧ n % 2 = 1 ∧ n ≠ 1) := by
      by_cases h0 : f = 0
      · rcases hodd (hf.trans h0) with h | h
        · exact .inr (.inl ⟨h0, h⟩)
        · by_cases hn2 : n = 2
          · exact .inr (.inl ⟨h0, hn2⟩)
          · exact .inr (.inr ⟨h0, hn2, h.1, by omega⟩)
      · exact .inl h0
    clear hodd
    rcases hcase with h0 | ⟨h0, hn2⟩ | ⟨h0, hn2, ho, hn1⟩
    · have h0' : (f == 0) = false := by rw [beq_eq_false_iff_ne]; exact h0
      (repeat' ((first | with_reducible (first | apply XQ_cons | apply XQ_consG | apply XQ_nil | apply XR_cons | apply XR_consG | apply XR_nil | apply cF_pure1 (by assumption) | apply cV_pure1 (by assumption) | apply cF_ev1 (by assumption) | apply cV_ev1 (by assumption)) | with_reducible (first | apply X_regRS (id := 12) | apply X_regR (id := 12) | apply X_seqX (x := .seq (.region 12 _ false) _) | apply X_seqX (x := .seq (.seq (.region 12 _ false) _) _)) | (with_reducible apply X_drawC (id := 7) 18; (next => (kernel_rfl)); (next => (kernel_rfl))) | refine X_of _ ?_ | with_reducible (first | exact ⟨_, rfl⟩ | refine And.intro ?_ ?_ | intro _)) <;> try simp -implicitDefEqProofs (maxSteps := 1000000) (disch := first | exact dz1 | fail) only [vcR, vcT, Int.reduceBEq, Int.reduceBNe, Int.reduceEq, Int.reduceNe, Ab.part, Nat.reduceAdd, Nat.reduceMul, Nat.reduceLeDiff, Nat.reduceEqDiff, Nat.reduceBEq, Nat.reduceBNe, reduceCtorEq, ↓reduceIte, implies_true, forall_const, Int.reduceNeg, Int.reduceToNat, Int.reduceLT, Int.reduceLE, Int.reduceAdd, Int.reduceSub, Int.reduceMul, Int.reducePow, Nat.reducePow, true_or, Option.isNone_some, Option.isNone_none, vcXPb, Tryd.f9, List.toList_toArray, arr4_zero, nat4_set1, nat4_setL, nat4_set0, h0']))
      refine X_loop (ι := Nat) (fun i => i ≤ m) (fun i => m - i) [9, 10, 40, 41, 42, 43, 44, 45, 46, 47, 48, 49, 50, 51, 52, 53, 54, 55]
        (fun i => [(9, .s (.v (.int .i64 (i : Nat))))])
        (fun i => []) 0 (shape_of fun i => ?_) (by decide) ?_ ?_
      · simp only [List.length_cons, List.length_nil, List.map_cons, List.map_nil, List.nodup_cons, List.nodup_nil, List.mem_cons, Nat.reduceAdd, Nat.reduceEqDiff, or_false, not_false_eq_true, forall_eq_or_imp, forall_eq, or_self, Nat.reduceLT, Nat.reduceLeDiff, and_self, List.forall_mem_cons, List.not_mem_nil, false_implies, implies_true, and_true, true_and, vcOPb]
      · simp -implicitDefEqProofs (maxSteps := 1000000) (disch := first | exact dz1 | fail) only [vcR, vcT, Int.reduceBEq, Int.reduceBNe, Int.reduceEq, Int.reduceNe, Ab.part, Nat.reduceAdd, Nat.reduceMul, Nat.reduceLeDiff, Nat.reduceEqDiff, Nat.reduceBEq, Nat.reduceBNe, reduceCtorEq, ↓reduceIte, implies_true, forall_const, Int.reduceNeg, Int.reduceToNat, Int.reduceLT, Int.reduceLE, Int.reduceAdd, Int.reduceSub, Int.reduceMul, Int.reducePow, Nat.reducePow, true_or, Option.isNone_some, Option.isNone_none, vcXPb, Tryd.f9, List.toList_toArray, again_eq]
        exact ⟨_, rfl⟩
      · intro i us hi
        by_cases h : i < m
        · obtain ⟨ad, rfl⟩ := hadr (by omega)
          have hx : ∀ {K : TV → HE → Prop}, xext (ctx0 Tryd.prog w) (some true) 4 ((ad.add (i * 9)).add 0) K = K (.agg (nat4 (l i).N)) .none := fun {K} => by rw [add_add (hP1.prfs h).spot]; exact hP1.prfN h
          have ho := hown i h
          rw [pv_own h, he] at ho
          (repeat' ((first | with_reducible (first | apply XQ_cons | apply XQ_consG | apply XQ_nil | apply XR_cons | apply XR_consG | apply XR_nil | apply cF_pure1 (by assumption) | apply cV_pure1 (by assumption) | apply cF_ev1 (by assumption) | apply cV_ev1 (by assumption)) | with_reducible (first | apply X_regRS (id := 12) | apply X_regR (id := 12) | apply X_seqX (x := .seq (.region 12 _ false) _) | apply X_seqX (x := .seq (.seq (.region 12 _ false) _) _) | apply X_seqX (x := .block _ (.seq (.seq (.region 12 _ false) _) _)) | apply X_blockX (b := (.seq (.seq (.region 12 _ false) _) _)) | apply X_seqX (x := .block _ (.seq (.region 12 _ false) _)) | apply X_blockX (b := (.seq (.region 12 _ false) _))) | (with_reducible apply X_drawC (id := 7) 18; (next => (kernel_rfl)); (next => (kernel_rfl))) | refine X_of _ ?_ | with_reducible (first | exact ⟨_, rfl⟩ | refine And.intro ?_ ?_ | intro _)) <;> try simp -implicitDefEqProofs (maxSteps := 1000000) (disch := first | exact dz1 | fail) only [vcR, vcT, Int.reduceBEq, Int.reduceBNe, Int.reduceEq, Int.reduceNe, Ab.part, Nat.reduceAdd, Nat.reduceMul, Nat.reduceLeDiff, Nat.reduceEqDiff, Nat.reduceBEq, Nat.reduceBNe, reduceCtorEq, ↓reduceIte, implies_true, forall_const, Int.reduceNeg, Int.reduceToNat, Int.reduceLT, Int.reduceLE, Int.reduceAdd, Int.reduceSub, Int.reduceMul, Int.reducePow, Nat.reducePow, true_or, Option.isNone_some, Option.isNone_none, vcXPb, Tryd.f9, List.toList_toArray, arr4_zero, nat4_set1, nat4_setL, nat4_set0, hx,bne_self_eq_false]))
          refine ⟨i + 1, by omega, ?_⟩
          simp -implicitDefEqProofs (maxSteps := 1000000) (disch := first | exact dz1 | fail) only [vcR, vcT, Int.reduceBEq, Int.reduceBNe, Int.reduceEq, Int.reduceNe, Ab.part, Nat.reduceAdd, Nat.reduceMul, Nat.reduceLeDiff, Nat.reduceEqDiff, Nat.reduceBEq, Nat.reduceBNe, reduceCtorEq, ↓reduceIte, implies_true, forall_const, Int.reduceNeg, Int.reduceToNat, Int.reduceLT, Int.reduceLE, Int.reduceAdd, Int.reduceSub, Int.reduceMul, Int.reducePow, Nat.reducePow, true_or, Option.isNone_some, Option.isNone_none, vcXPb, Tryd.f9, List.toList_toArray, again_eq]
          exact ⟨_, rfl⟩
        · have : i = m := by omega
          subst this
          (repeat' ((first | with_reducible (first | apply XQ_cons | apply XQ_consG | apply XQ_nil | apply XR_cons | apply XR_consG | apply XR_nil | apply cF_pure1 (by assumption) | apply cV_pure1 (by assumption) | apply cF_ev1 (by assumption) | apply cV_ev1 (by assumption)) | with_reducible (first | apply X_regRS (id := 12) | apply X_regR (id := 12) | apply X_seqX (x := .seq (.region 12 _ false) _) | apply X_seqX (x := .seq (.seq (.region 12 _ false) _) _)) | (with_reducible apply X_drawC (id := 7) 18; (next => (kernel_rfl)); (next => (kernel_rfl))) | refine X_of _ ?_ | with_reducible (first | exact ⟨_, rfl⟩ | refine And.intro ?_ ?_ | intro _)) <;> try simp -implicitDefEqProofs (maxSteps := 1000000) (disch := first | exact dz1 | fail) only [vcR, vcT, Int.reduceBEq, Int.reduceBNe, Int.reduceEq, Int.reduceNe, Ab.part, Nat.reduceAdd, Nat.reduceMul, Nat.reduceLeDiff, Nat.reduceEqDiff, Nat.reduceBEq, Nat.reduceBNe, reduceCtorEq, ↓reduceIte, implies_true, forall_const, Int.reduceNeg, Int.reduceToNat, Int.reduceLT, Int.reduceLE, Int.reduceAdd, Int.reduceSub, Int.reduceMul, Int.reducePow, Nat.reducePow, true_or, Option.isNone_some, Option.isNone_none, vcXPb, Tryd.f9, List.toList_toArray, arr4_zero, nat4_set1, nat4_setL, nat4_set0]))
    · subst h0
      rw [decide_eq_true hn2] at hl2
      (repeat' ((first | with_reducible (first | apply XQ_cons | apply XQ_consG | apply XQ_nil | apply XR_cons | apply XR_consG | apply XR_nil | apply cF_pure1 (by assumption) | apply cV_pure1 (by assumption) | apply cF_ev1 (by assumption) | apply cV_ev1 (by assumption)) | with_reducible (first | apply X_regRS (id := 12) | apply X_regR (id := 12) | apply X_seqX (x := .seq (.region 12 _ false) _) | apply X_seqX (x := .seq (.seq (.region 12 _ false) _) _)) | (with_reducible apply X_drawC (id := 7) 18; (next => (kernel_rfl)); (next => (kernel_rfl))) | refine X_of _ ?_ | with_reducible (first | exact ⟨_, rfl⟩ | refine And.intro ?_ ?_ | intro _)) <;> try simp -implicitDefEqProofs (maxSteps := 1000000) (disch := first | exact dz1 | fail) only [vcR, vcT, Int.reduceBEq, Int.reduceBNe, Int.reduceEq, Int.reduceNe, Ab.part, Nat.reduceAdd, Nat.reduceMul, Nat.reduceLeDiff, Nat.reduceEqDiff, Nat.reduceBEq, Nat.reduceBNe, reduceCtorEq, ↓reduceIte, implies_true, forall_const, Int.reduceNeg, Int.reduceToNat, Int.reduceLT, Int.reduceLE, Int.reduceAdd, Int.reduceSub, Int.reduceMul, Int.reducePow, Nat.reducePow, true_or, Option.isNone_some, Option.isNone_none, vcXPb, Tryd.f9, List.toList_toArray, arr4_zero, nat4_set1, nat4_setL, nat4_set0, beq_self_eq_true,hl2]))
      refine X_loop (ι := Nat) (fun i => i ≤ m) (fun i => m - i) [9, 10, 40, 41, 42, 43, 44, 45, 46, 47, 48, 49, 50, 51, 52, 53, 54, 55]
        (fun i => [(9, .s (.v (.int .i64 (i : Nat))))])
        (fun i => []) 0 (shape_of fun i => ?_) (by decide) ?_ ?_
      · simp only [List.length_cons, List.length_nil, List.map_cons, List.map_nil, List.nodup_cons, List.nodup_nil, List.mem_cons, Nat.reduceAdd, Nat.reduceEqDiff, or_false, not_false_eq_true, forall_eq_or_imp, forall_eq, or_self, Nat.reduceLT, Nat.reduceLeDiff, and_self, List.forall_mem_cons, List.not_mem_nil, false_implies, implies_true, and_true, true_and, vcOPb]
      · simp -implicitDefEqProofs (maxSteps := 1000000) (disch := first | exact dz1 | fail) only [vcR, vcT, Int.reduceBEq, Int.reduceBNe, Int.reduceEq, Int.reduceNe, Ab.part, Nat.reduceAdd, Nat.reduceMul, Nat.reduceLeDiff, Nat.reduceEqDiff, Nat.reduceBEq, Nat.reduceBNe, reduceCtorEq, ↓reduceIte, implies_true, forall_const, Int.reduceNeg, Int.reduceToNat, Int.reduceLT, Int.reduceLE, Int.reduceAdd, Int.reduceSub, Int.reduceMul, Int.reducePow, Nat.reducePow, true_or, Option.isNone_some, Option.isNone_none, vcXPb, Tryd.f9, List.toList_toArray, again_eq]
        exact ⟨_, rfl⟩
      · intro i us hi
        by_cases h : i < m
        · obtain ⟨ad, rfl⟩ := hadr (by omega)
          have hx : ∀ {K : TV → HE → Prop}, xext (ctx0 Tryd.prog w) (some true) 4 ((ad.add (i * 9)).add 0) K = K (.agg (nat4 (l i).N)) .none := fun {K} => by rw [add_add (hP1.prfs h).spot]; exact hP1.prfN h
          have ho := hown i h
          rw [pv_own h, he] at ho
          (repeat' ((first | with_reducible (first | apply XQ_cons | apply XQ_consG | apply XQ_nil | apply XR_cons | apply XR_consG | apply XR_nil | apply cF_pure1 (by assumption) | apply cV_pure1 (by assumption) | apply cF_ev1 (by assumption) | apply cV_ev1 (by assumption)) | with_reducible (first | apply X_regRS (id := 12) | apply X_regR (id := 12) | apply X_seqX (x := .seq (.region 12 _ false) _) | apply X_seqX (x := .seq (.seq (.region 12 _ false) _) _) | apply X_seqX (x := .block _ (.seq (.seq (.region 12 _ false) _) _)) | apply X_blockX (b := (.seq (.seq (.region 12 _ false) _) _)) | apply X_seqX (x := .block _ (.seq (.region 12 _ false) _)) | apply X_blockX (b := (.seq (.region 12 _ false) _))) | (with_reducible apply X_drawC (id := 7) 18; (next => (kernel_rfl)); (next => (kernel_rfl))) | refine X_of _ ?_ | with_reducible (first | exact ⟨_, rfl⟩ | refine And.intro ?_ ?_ | intro _)) <;> try simp -implicitDefEqProofs (maxSteps := 1000000) (disch := first | exact dz1 | fail) only [vcR, vcT, Int.reduceBEq, Int.reduceBNe, Int.reduceEq, Int.reduceNe, Ab.part, Nat.reduceAdd, Nat.reduceMul, Nat.reduceLeDiff, Nat.reduceEqDiff, Nat.reduceBEq, Nat.reduceBNe, reduceCtorEq, ↓reduceIte, implies_true, forall_const, Int.reduceNeg, Int.reduceToNat, Int.reduceLT, Int.reduceLE, Int.reduceAdd, Int.reduceSub, Int.reduceMul, Int.reducePow, Nat.reducePow, true_or, Option.isNone_some, Option.isNone_none, vcXPb, Tryd.f9, List.toList_toArray, arr4_zero, nat4_set1, nat4_setL, nat4_set0, hx,bne_self_eq_false]))
          refine ⟨i + 1, by omega, ?_⟩
          simp -implicitDefEqProofs (maxSteps := 1000000) (disch := first | exact dz1 | fail) only [vcR, vcT, Int.reduceBEq, Int.reduceBNe, Int.reduceEq, Int.reduceNe, Ab.part, Nat.reduceAdd, Nat.reduceMul, Nat.reduceLeDiff, Nat.reduceEqDiff, Nat.reduceBEq, Nat.reduceBNe, reduceCtorEq, ↓reduceIte, implies_true, forall_const, Int.reduceNeg, Int.reduceToNat, Int.reduceLT, Int.reduceLE, Int.reduceAdd, Int.reduceSub, Int.reduceMul, Int.reducePow, Nat.reducePow, true_or, Option.isNone_some, Option.isNone_none, vcXPb, Tryd.f9, List.toList_toArray, again_eq]
          exact ⟨_, rfl⟩
        · have : i = m := by omega
          subst this
          (repeat' ((first | with_reducible (first | apply XQ_cons | apply XQ_consG | apply XQ_nil | apply XR_cons | apply XR_consG | apply XR_nil | apply cF_pure1 (by assumption) | apply cV_pure1 (by assumption) | apply cF_ev1 (by assumption) | apply cV_ev1 (by assumption)) | with_reducible (first | apply X_regRS (id := 12) | apply X_regR (id := 12) | apply X_seqX (x := .seq (.region 12 _ false) _) | apply X_seqX (x := .seq (.seq (.region 12 _ false) _) _)) | (with_reducible apply X_drawC (id := 7) 18; (next => (kernel_rfl)); (next => (kernel_rfl))) | refine X_of _ ?_ | with_reducible (first | exact ⟨_, rfl⟩ | refine And.intro ?_ ?_ | intro _)) <;> try simp -implicitDefEqProofs (maxSteps := 1000000) (disch := first | exact dz1 | fail) only [vcR, vcT, Int.reduceBEq, Int.reduceBNe, Int.reduceEq, Int.reduceNe, Ab.part, Nat.reduceAdd, Nat.reduceMul, Nat.reduceLeDiff, Nat.reduceEqDiff, Nat.reduceBEq, Nat.reduceBNe, reduceCtorEq, ↓reduceIte, implies_true, forall_const, Int.reduceNeg, Int.reduceToNat, Int.reduceLT, Int.reduceLE, Int.reduceAdd, Int.reduceSub, Int.reduceMul, Int.reducePow, Nat.reducePow, true_or, Option.isNone_some, Option.isNone_none, vcXPb, Tryd.f9, List.toList_toArray, arr4_zero, nat4_set1, nat4_setL, nat4_set0]))
    · subst h0
      rw [decide_eq_false hn2] at hl2
      rw [decide_eq_false hn1] at hl1
      have hev : (w0 % 2 == 0) = false := by rw [beq_eq_false_iff_ne]; omega
      (repeat' ((first | with_reducible (first | apply XQ_cons | apply XQ_consG | apply XQ_nil | apply XR_cons | apply XR_consG | apply XR_nil | apply cF_pure1 (by assumption) | apply cV_pure1 (by assumption) | apply cF_ev1 (by assumption) | apply cV_ev1 (by assumption)) | with_reducible (first | apply X_regRS (id := 12) | apply X_regR (id := 12) | apply X_seqX (x := .seq (.region 12 _ false) _) | apply X_seqX (x := .seq (.seq (.region 12 _ false) _) _)) | (with_reducible apply X_drawC (id := 7) 18; (next => (kernel_rfl)); (next => (kernel_rfl))) | refine X_of _ ?_ | with_reducible (first | exact ⟨_, rfl⟩ | refine And.intro ?_ ?_ | intro _)) <;> try simp -implicitDefEqProofs (maxSteps := 1000000) (disch := first | exact dz1 | fail) only [vcR, vcT, Int.reduceBEq, Int.reduceBNe, Int.reduceEq, Int.reduceNe, Ab.part, Nat.reduceAdd, Nat.reduceMul, Nat.reduceLeDiff, Nat.reduceEqDiff, Nat.reduceBEq, Nat.reduceBNe, reduceCtorEq, ↓reduceIte, implies_true, forall_const, Int.reduceNeg, Int.reduceToNat, Int.reduceLT, Int.reduceLE, Int.reduceAdd, Int.reduceSub, Int.reduceMul, Int.reducePow, Nat.reducePow, true_or, Option.isNone_some, Option.isNone_none, vcXPb, Tryd.f9, List.toList_toArray, arr4_zero, nat4_set1, nat4_setL, nat4_set0, beq_self_eq_true,hl2,hl1,hw0,hev]))
      refine X_loop (ι := Nat) (fun i => i ≤ m) (fun i => m - i) [9, 10, 40, 41, 42, 43, 44, 45, 46, 47, 48, 49, 50, 51, 52, 53, 54, 55]
        (fun i => [(9, .s (.v (.int .i64 (i : Nat))))])
        (fun i => []) 0 (shape_of fun i => ?_) (by decide) ?_ ?_
      · simp only [List.length_cons, List.length_nil, List.map_cons, List.map_nil, List.nodup_cons, List.nodup_nil, List.mem_cons, Nat.reduceAdd, Nat.reduceEqDiff, or_false, not_false_eq_true, forall_eq_or_imp, forall_eq, or_self, Nat.reduceLT, Nat.reduceLeDiff, and_self, List.forall_mem_cons, List.not_mem_nil, false_implies, implies_true, and_true, true_and, vcOPb]
      · simp -implicitDefEqProofs (maxSteps := 1000000) (disch := first | exact dz1 | fail) only [vcR, vcT, Int.reduceBEq, Int.reduceBNe, Int.reduceEq, Int.reduceNe, Ab.part, Nat.reduceAdd, Nat.reduceMul, Nat.reduceLeDiff, Nat.reduceEqDiff, Nat.reduceBEq, Nat.reduceBNe, reduceCtorEq, ↓reduceIte, implies_true, forall_const, Int.reduceNeg, Int.reduceToNat, Int.reduceLT, Int.reduceLE, Int.reduceAdd, Int.reduceSub, Int.reduceMul, Int.reducePow, Nat.reducePow, true_or, Option.isNone_some, Option.isNone_none, vcXPb, Tryd.f9, List.toList_toArray, again_eq]
        exact ⟨_, rfl⟩
      · intro i us hi
        by_cases h : i < m
        · obtain ⟨ad, rfl⟩ := hadr (by omega)
          have hx : ∀ {K : TV → HE → Prop}, xext (ctx0 Tryd.prog w) (some true) 4 ((ad.add (i * 9)).add 0) K = K (.agg (nat4 (l i).N)) .none := fun {K} => by rw [add_add (hP1.prfs h).spot]; exact hP1.prfN h
          have ho := hown i h
          rw [pv_own h, he] at ho
          (repeat' ((first | with_reducible (first | apply XQ_cons | apply XQ_consG | apply XQ_nil | apply XR_cons | apply XR_consG | apply XR_nil | apply cF_pure1 (by assumption) | apply cV_pure1 (by assumption) | apply cF_ev1 (by assumption) | apply cV_ev1 (by assumption)) | with_reducible (first | apply X_regRS (id := 12) | apply X_regR (id := 12) | apply X_seqX (x := .seq (.region 12 _ false) _) | apply X_seqX (x := .seq (.seq (.region 12 _ false) _) _) | apply X_seqX (x := .block _ (.seq (.seq (.region 12 _ false) _) _)) | apply X_blockX (b := (.seq (.seq (.region 12 _ false) _) _)) | apply X_seqX (x := .block _ (.seq (.region 12 _ false) _)) | apply X_blockX (b := (.seq (.region 12 _ false) _))) | (with_reducible apply X_drawC (id := 7) 18; (next => (kernel_rfl)); (next => (kernel_rfl))) | refine X_of _ ?_ | with_reducible (first | exact ⟨_, rfl⟩ | refine And.intro ?_ ?_ | intro _)) <;> try simp -implicitDefEqProofs (maxSteps := 1000000) (disch := first | exact dz1 | fail) only [vcR, vcT, Int.reduceBEq, Int.reduceBNe, Int.reduceEq, Int.reduceNe, Ab.part, Nat.reduceAdd, Nat.reduceMul, Nat.reduceLeDiff, Nat.reduceEqDiff, Nat.reduceBEq, Nat.reduceBNe, reduceCtorEq, ↓reduceIte, implies_true, forall_const, Int.reduceNeg, Int.reduceToNat, Int.reduceLT, Int.reduceLE, Int.reduceAdd, Int.reduceSub, Int.reduceMul, Int.reducePow, Nat.reducePow, true_or, Option.isNone_some, Option.isNone_none, vcXPb, Tryd.f9, List.toList_toArray, arr4_zero, nat4_set1, nat4_setL, nat4_set0, hx,bne_self_eq_false]))
          refine ⟨i + 1, by omega, ?_⟩
          simp -implicitDefEqProofs (maxSteps := 1000000) (disch := first | exact dz1 | fail) only [vcR, vcT, Int.reduceBEq, Int.reduceBNe, Int.reduceEq, Int.reduceNe, Ab.part, Nat.reduceAdd, Nat.reduceMul, Nat.reduceLeDiff, Nat.reduceEqDiff, Nat.reduceBEq, Nat.reduceBNe, reduceCtorEq, ↓reduceIte, implies_true, forall_const, Int.reduceNeg, Int.reduceToNat, Int.reduceLT, Int.reduceLE, Int.reduceAdd, Int.reduceSub, Int.reduceMul, Int.reducePow, Nat.reducePow, true_or, Option.isNone_some, Option.isNone_none, vcXPb, Tryd.f9, List.toList_toArray, again_eq]
          exact ⟨_, rfl⟩
        · have : i = m := by omega
          subst this
          (repeat' ((first | with_reducible (first | apply XQ_cons | apply XQ_consG | apply XQ_nil | apply XR_cons | apply XR_consG | apply XR_nil | apply cF_pure1 (by assumption) | apply cV_pure1 (by assumption) | apply cF_ev1 (by assumption) | apply cV_ev1 (by assumption)) | with_reducible (first | apply X_regRS (id := 12) | apply X_regR (id := 12) | apply X_seqX (x := .seq (.region 12 _ false) _) | apply X_seqX (x := .seq (.seq (.region 12 _ false) _) _)) | (with_reducible apply X_drawC (id := 7) 18; (next => (kernel_rfl)); (next => (kernel_rfl))) | refine X_of _ ?_ | with_reducible (first | exact ⟨_, rfl⟩ | refine And.intro ?_ ?_ | intro _)) <;> try simp -implicitDefEqProofs (maxSteps := 1000000) (disch := first | exact dz1 | fail) only [vcR, vcT, Int.reduceBEq, Int.reduceBNe, Int.reduceEq, Int.reduceNe, Ab.part, Nat.reduceAdd, Nat.reduceMul, Nat.reduceLeDiff, Nat.reduceEqDiff, Nat.reduceBEq, Nat.reduceBNe, reduceCtorEq, ↓reduceIte, implies_true, forall_const, Int.reduceNeg, Int.reduceToNat, Int.reduceLT, Int.reduceLE, Int.reduceAdd, Int.reduceSub, Int.reduceMul, Int.reducePow, Nat.reducePow, true_or, Option.isNone_some, Option.isNone_none, vcXPb, Tryd.f9, List.toList_toArray, arr4_zero, nat4_set1, nat4_setL, nat4_set0]))
end Go.Proofs.YthniflakjkbpiaaDoor
