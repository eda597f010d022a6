/-
  Package pratt's statements: they answer true.
-/
import Derived.Test.YthniflakjkbpiaaDoorPW4
namespace Go.Proofs.YthniflakjkbpiaaDoor
open Go Go.Ab
set_option linter.unusedSimpArgs false
set_option linter.unusedVariables false
set_option linter.defProp false
set_option maxHeartbeats 20000000
set_option maxRecDepth 100000


theorem rprime_c (n : Nat) (hn : n < 1048576) (hp : IsPrime n) : PureC Tryd.prog 20 [.s (.v (.int .u64 (n : Int)))] (.s (.v (.bool true))) := by
  have h2 : ¬ (n : Int) < 2 := by have := hp.1; omega
  have hdiv : ∀ k, 2 ≤ k → k * k ≤ n → n % k ≠ 0 := by
    intro k hk hkk h0
    rcases hp.2 k (Nat.dvd_of_mod_eq_zero h0) with h | h
    · omega
    · have h3 : 2 * k ≤ k * k := Nat.mul_le_mul_right k hk
      omega
  clear hp
  refine pureC_of Tryd.func20 rfl (by simp only [List.length_cons, List.length_nil, List.map_cons, List.map_nil, List.nodup_cons, List.nodup_nil, List.mem_cons, Nat.reduceAdd, Nat.reduceEqDiff, or_false, not_false_eq_true, forall_eq_or_imp, forall_eq, or_self, Nat.reduceLT, Nat.reduceLeDiff, and_self, List.forall_mem_cons, List.not_mem_nil, false_implies, implies_true, and_true, true_and, vcOPb]) (by simp only [List.length_cons, List.length_nil, List.map_cons, List.map_nil, List.nodup_cons, List.nodup_nil, List.mem_cons, Nat.reduceAdd, Nat.reduceEqDiff, or_false, not_false_eq_true, forall_eq_or_imp, forall_eq, or_self, Nat.reduceLT, Nat.reduceLeDiff, and_self, List.forall_mem_cons, List.not_mem_nil, false_implies, implies_true, and_true, true_and, vcOPb]) fun w => ?_
  simp only [List.length_cons, List.length_nil, Tryd.ntmps20, Nat.reduceAdd, Nat.reduceSub, List.replicate_succ, List.replicate_zero, List.cons_append, List.nil_append]
  (repeat' ((first | with_reducible (first | apply cF_pure1 (by assumption) | apply cF_ev1 (by assumption)) | refine X_of _ ?_ | with_reducible (first | exact ⟨_, rfl⟩ | refine And.intro ?_ ?_ | intro _)) <;> try simp -implicitDefEqProofs (maxSteps := 1000000) (disch := first | exact dz1 | fail) only [vcR, vcT, Int.reduceBEq, Int.reduceBNe, Int.reduceEq, Int.reduceNe, Ab.part, Nat.reduceAdd, Nat.reduceMul, Nat.reduceLeDiff, Nat.reduceEqDiff, Nat.reduceBEq, Nat.reduceBNe, reduceCtorEq, ↓reduceIte, implies_true, forall_const, Int.reduceNeg, Int.reduceToNat, Int.reduceLT, Int.reduceLE, Int.reduceAdd, Int.reduceSub, Int.reduceMul, Int.reducePow, Nat.reducePow, true_or, Option.isNone_some, Option.isNone_none, vcXPb, Tryd.f20, List.toList_toArray, arr4_zero, nat4_set1, nat4_setL, nat4_set0, h2]))
  refine X_loop (ι := Nat) (fun k => 2 ≤ k ∧ k ≤ 1024) (fun k => 1024 - k) [3, 6, 7, 8, 9, 10, 11, 12, 13, 14, 15, 16]
    (fun k => [(3, .s (.v (.int .u64 (k : Nat))))])
    (fun k => []) 2 (shape_of fun k => ?_) (by decide) ?_ ?_
  · simp only [List.length_cons, List.length_nil, List.map_cons, List.map_nil, List.nodup_cons, List.nodup_nil, List.mem_cons, Nat.reduceAdd, Nat.reduceEqDiff, or_false, not_false_eq_true, forall_eq_or_imp, forall_eq, or_self, Nat.reduceLT, Nat.reduceLeDiff, and_self, List.forall_mem_cons, List.not_mem_nil, false_implies, implies_true, and_true, true_and, vcOPb]
  · simp -implicitDefEqProofs (maxSteps := 1000000) (disch := first | exact dz1 | fail) only [vcR, vcT, Int.reduceBEq, Int.reduceBNe, Int.reduceEq, Int.reduceNe, Ab.part, Nat.reduceAdd, Nat.reduceMul, Nat.reduceLeDiff, Nat.reduceEqDiff, Nat.reduceBEq, Nat.reduceBNe, reduceCtorEq, ↓reduceIte, implies_true, forall_const, Int.reduceNeg, Int.reduceToNat, Int.reduceLT, Int.reduceLE, Int.reduceAdd, Int.reduceSub, Int.reduceMul, Int.reducePow, Nat.reducePow, true_or, Option.isNone_some, Option.isNone_none, vcXPb, Tryd.f20, List.toList_toArray, again_eq]
    exact ⟨_, rfl⟩
  · intro k us ⟨hk, hk2⟩
    have hq1 : k * k ≤ 1024 * 1024 := Nat.mul_le_mul hk2 hk2
    have hkc : (k : Int) * (k : Int) = ((k * k : Nat) : Int) := (Int.natCast_mul k k).symm
    have hd := hdiv k hk
    have hlt : k * k ≤ n → k < 1024 := fun h => by
      by_cases hc : k = 1024
      · subst hc; omega
      · omega
    obtain ⟨q, hq⟩ : ∃ q, k * k = q := ⟨_, rfl⟩
    rw [hq] at hq1 hkc hd hlt
    clear hdiv hq
    by_cases h : q ≤ n
    · have h' : (q : Int) ≤ (n : Int) := by omega
      have hm0 : (n % k == 0) = false := by rw [beq_eq_false_iff_ne]; exact hd h
      have hk1024 := hlt h
      (repeat' ((first | with_reducible (first | apply cF_pure1 (by assumption) | apply cF_ev1 (by assumption)) | refine X_of _ ?_ | with_reducible (first | exact ⟨_, rfl⟩ | refine And.intro ?_ ?_ | intro _)) <;> try simp -implicitDefEqProofs (maxSteps := 1000000) (disch := first | exact dz1 | fail) only [vcR, vcT, Int.reduceBEq, Int.reduceBNe, Int.reduceEq, Int.reduceNe, Ab.part, Nat.reduceAdd, Nat.reduceMul, Nat.reduceLeDiff, Nat.reduceEqDiff, Nat.reduceBEq, Nat.reduceBNe, reduceCtorEq, ↓reduceIte, implies_true, forall_const, Int.reduceNeg, Int.reduceToNat, Int.reduceLT, Int.reduceLE, Int.reduceAdd, Int.reduceSub, Int.reduceMul, Int.reducePow, Nat.reducePow, true_or, Option.isNone_some, Option.isNone_none, vcXPb, Tryd.f20, List.toList_toArray, arr4_zero, nat4_set1, nat4_setL, nat4_set0, hkc,h',hm0]))
      all_goals first | omega | exact ⟨k + 1, by omega, ⟨by omega, by omega⟩, rfl, _, rfl⟩ | (simp -implicitDefEqProofs (maxSteps := 1000000) (disch := first | exact dz1 | fail) only [vcR, vcT, Int.reduceBEq, Int.reduceBNe, Int.reduceEq, Int.reduceNe, Ab.part, Nat.reduceAdd, Nat.reduceMul, Nat.reduceLeDiff, Nat.reduceEqDiff, Nat.reduceBEq, Nat.reduceBNe, reduceCtorEq, ↓reduceIte, implies_true, forall_const, Int.reduceNeg, Int.reduceToNat, Int.reduceLT, Int.reduceLE, Int.reduceAdd, Int.reduceSub, Int.reduceMul, Int.reducePow, Nat.reducePow, true_or, Option.isNone_some, Option.isNone_none, vcXPb, Tryd.f20, List.toList_toArray, again_eq]; exact ⟨k + 1, by omega, ⟨by omega, by omega⟩, rfl, _, rfl⟩)
    · have h' : ¬ (q : Int) ≤ (n : Int) := by omega
      (repeat' ((first | with_reducible (first | apply cF_pure1 (by assumption) | apply cF_ev1 (by assumption)) | refine X_of _ ?_ | with_reducible (first | exact ⟨_, rfl⟩ | refine And.intro ?_ ?_ | intro _)) <;> try simp -implicitDefEqProofs (maxSteps := 1000000) (disch := first | exact dz1 | fail) only [vcR, vcT, Int.reduceBEq, Int.reduceBNe, Int.reduceEq, Int.reduceNe, Ab.part, Nat.reduceAdd, Nat.reduceMul, Nat.reduceLeDiff, Nat.reduceEqDiff, Nat.reduceBEq, Nat.reduceBNe, reduceCtorEq, ↓reduceIte, implies_true, forall_const, Int.reduceNeg, Int.reduceToNat, Int.reduceLT, Int.reduceLE, Int.reduceAdd, Int.reduceSub, Int.reduceMul, Int.reducePow, Nat.reducePow, true_or, Option.isNone_some, Option.isNone_none, vcXPb, Tryd.f20, List.toList_toArray, arr4_zero, nat4_set1, nat4_setL, nat4_set0, hkc,h']))
theorem wd_high4 {n : Nat} (hn : n < 2 ^ 256) : (n < 1048576 ∧ wd n 0 = n ∧ wd n 1 = 0 ∧ wd n 2 = 0 ∧ wd n 3 = 0) ∨ wd n 1 ≠ 0 ∨ (wd n 1 = 0 ∧ wd n 2 ≠ 0) ∨ (wd n 1 = 0 ∧ wd n 2 = 0 ∧ wd n 3 ≠ 0) ∨ (wd n 1 = 0 ∧ wd n 2 = 0 ∧ wd n 3 = 0 ∧ ¬ wd n 0 < 1048576) := by
  by_cases h1 : wd n 1 = 0
  · by_cases h2 : wd n 2 = 0
    · by_cases h3 : wd n 3 = 0
      · have h0 : n = wd n 0 := wd_inj4 _ _ hn (Nat.lt_trans (wd_lt n 0) (by decide)) fun k hk => by
          rcases k with _ | _ | _ | _ | k
          · rw [wd_small _ (wd_lt n 0)]
          · rw [h1, wd_big _ _ (Nat.lt_of_lt_of_le (wd_lt n 0) (by decide))]
          · rw [h2, wd_big _ _ (Nat.lt_of_lt_of_le (wd_lt n 0) (by decide))]
          · rw [h3, wd_big _ _ (Nat.lt_of_lt_of_le (wd_lt n 0) (by decide))]
          · omega
        by_cases h4 : wd n 0 < 1048576
        · exact .inl ⟨by omega, h0.symm, h1, h2, h3⟩
        · exact .inr (.inr (.inr (.inr ⟨h1, h2, h3, h4⟩)))
      · exact .inr (.inr (.inr (.inl ⟨h1, h2, h3⟩)))
    · exact .inr (.inr (.inl ⟨h1, h2⟩))
  · exact .inr (.inl h1)


theorem prattPrime_m (x : Option Addr) (m c : Nat) (l : Nat → Pf) (hl : PfOk l) (hm : m < 9223372036854775808) (n : Nat) (hn : n < 2 ^ 256) :
    PureM Tryd.prog 6 [.s (.v (.slice x m c)), .agg (nat4 n)] (fun w => prfs x m l w ∧ least w) (.s (.v (.bool true))) := by
  have haw := pawake_m.ev (V := Evo.none)
  have hpv := (proves_m x m c l n hl hm hn).ev (V := Evo.none)
  have hsh := (short_m x m c l hl hm).ev (V := Evo.none)
  obtain ⟨few, hfew⟩ : ∃ few, shS l m = few := ⟨_, rfl⟩
  rw [hfew] at hsh
  have hpr := fun h => prime_of_known (ckS_ok (l := l) (m := m) (pvS_ok (n := n) h).1).2 n (pvS_ok h).2
  obtain ⟨f, hf⟩ : ∃ f, pvS l m n = f := ⟨_, rfl⟩
  rw [hf] at hpv hpr
  have hcase := wd_high4 hn
  obtain ⟨w0, hw0⟩ : ∃ w0, wd n 0 = w0 := ⟨_, rfl⟩
  obtain ⟨w1, hw1⟩ : ∃ w1, wd n 1 = w1 := ⟨_, rfl⟩
  obtain ⟨w2, hw2⟩ : ∃ w2, wd n 2 = w2 := ⟨_, rfl⟩
  obtain ⟨w3, hw3⟩ : ∃ w3, wd n 3 = w3 := ⟨_, rfl⟩
  rw [hw0, hw1, hw2, hw3] at hcase
  (refine pureM_of Tryd.func6 rfl (by simp only [List.length_cons, List.length_nil, List.map_cons, List.map_nil, List.nodup_cons, List.nodup_nil, List.mem_cons, Nat.reduceAdd, Nat.reduceEqDiff, or_false, not_false_eq_true, forall_eq_or_imp, forall_eq, or_self, Nat.reduceLT, Nat.reduceLeDiff, and_self, List.forall_mem_cons, List.not_mem_nil, false_implies, implies_true, and_true, true_and, vcOPb]) (by simp only [List.length_cons, List.length_nil, List.map_cons, List.map_nil, List.nodup_cons, List.nodup_nil, List.mem_cons, Nat.reduceAdd, Nat.reduceEqDiff, or_false, not_false_eq_true, forall_eq_or_imp, forall_eq, or_self, Nat.reduceLT, Nat.reduceLeDiff, and_self, List.forall_mem_cons, List.not_mem_nil, false_implies, implies_true, and_true, true_and, vcOPb]) fun w hpre => ?_; simp only [List.length_cons, List.length_nil, Tryd.ntmps6, Nat.reduceAdd, Nat.reduceSub, List.replicate_succ, List.replicate_zero, List.cons_append, List.nil_append])
  have hP0 : Kn (ctx0 Tryd.prog w) fun _ w => prfs x m l w := (prfs_kn hpre.1).prfs0
  have hL := (least_kn (P0 := Tryd.prog) hpre.2).least0
  have hPL : Kn (ctx0 Tryd.prog w) fun _ w => prfs x m l w ∧ least w := fun w' hw' => ⟨hP0 w' hw', hL w' hw'⟩
  clear hpre hf hfew hl
  cases few with
  | false => (repeat' ((first | with_reducible (first | apply XR_cons | apply XR_consG | apply XR_nil | apply cF_pure1 (by assumption) | apply cF_ev1 (by assumption)) | with_reducible (first | apply X_regRS (id := 6) | apply X_regR (id := 6) | apply X_seqX (x := .seq (.region 6 _ false) _) | apply X_seqX (x := .seq (.seq (.region 6 _ false) _) _)) | refine X_of _ ?_ | with_reducible (first | exact ⟨_, rfl⟩ | refine And.intro ?_ ?_ | intro _)) <;> try simp -implicitDefEqProofs (maxSteps := 1000000) (disch := first | exact dz1 | fail) only [vcR, vcT, Int.reduceBEq, Int.reduceBNe, Int.reduceEq, Int.reduceNe, Ab.part, Nat.reduceAdd, Nat.reduceMul, Nat.reduceLeDiff, Nat.reduceEqDiff, Nat.reduceBEq, Nat.reduceBNe, reduceCtorEq, ↓reduceIte, implies_true, forall_const, Int.reduceNeg, Int.reduceToNat, Int.reduceLT, Int.reduceLE, Int.reduceAdd, Int.reduceSub, Int.reduceMul, Int.reducePow, Nat.reducePow, true_or, Option.isNone_some, Option.isNone_none, vcXPb, Tryd.f6, List.toList_toArray, arr4_zero, nat4_set1, nat4_setL, nat4_set0]))
  | true =>
    by_cases h0 : f = 0
    · subst h0
      have hprn := hpr rfl
      clear hpr
      rcases hcase with ⟨h5, h6, h1, h2, h3⟩ | h1 | ⟨h1, h2⟩ | ⟨h1, h2, h3⟩ | ⟨h1, h2, h3, h4⟩
      · subst h6 h1 h2 h3
        have hrp := rprime_c w0 h5 hprn
        have g4 : ¬ (1048576 : Int) ≤ (w0 : Int) := by omega
        (repeat' ((first | with_reducible (first | apply XR_cons | apply XR_consG | apply XR_nil | apply cF_pure1 (by assumption) | apply cF_ev1 (by assumption)) | with_reducible (first | apply X_regRS (id := 6) | apply X_regR (id := 6) | apply X_seqX (x := .seq (.region 6 _ false) _) | apply X_seqX (x := .seq (.seq (.region 6 _ false) _) _)) | refine X_of _ ?_ | with_reducible (first | exact ⟨_, rfl⟩ | refine And.intro ?_ ?_ | intro _)) <;> try simp -implicitDefEqProofs (maxSteps := 1000000) (disch := first | exact dz1 | fail) only [vcR, vcT, Int.reduceBEq, Int.reduceBNe, Int.reduceEq, Int.reduceNe, Ab.part, Nat.reduceAdd, Nat.reduceMul, Nat.reduceLeDiff, Nat.reduceEqDiff, Nat.reduceBEq, Nat.reduceBNe, reduceCtorEq, ↓reduceIte, implies_true, forall_const, Int.reduceNeg, Int.reduceToNat, Int.reduceLT, Int.reduceLE, Int.reduceAdd, Int.reduceSub, Int.reduceMul, Int.reducePow, Nat.reducePow, true_or, Option.isNone_some, Option.isNone_none, vcXPb, Tryd.f6, List.toList_toArray, arr4_zero, nat4_set1, nat4_setL, nat4_set0, hw0,hw1,hw2,hw3,bne_self_eq_false,g4]))
      · have g1 : (0 : Int) < (w1 : Int) := by omega
        (repeat' ((first | with_reducible (first | apply XR_cons | apply XR_consG | apply XR_nil | apply cF_pure1 (by assumption) | apply cF_ev1 (by assumption)) | with_reducible (first | apply X_regRS (id := 6) | apply X_regR (id := 6) | apply X_seqX (x := .seq (.region 6 _ false) _) | apply X_seqX (x := .seq (.seq (.region 6 _ false) _) _)) | refine X_of _ ?_ | with_reducible (first | exact ⟨_, rfl⟩ | refine And.intro ?_ ?_ | intro _)) <;> try simp -implicitDefEqProofs (maxSteps := 1000000) (disch := first | exact dz1 | fail) only [vcR, vcT, Int.reduceBEq, Int.reduceBNe, Int.reduceEq, Int.reduceNe, Ab.part, Nat.reduceAdd, Nat.reduceMul, Nat.reduceLeDiff, Nat.reduceEqDiff, Nat.reduceBEq, Nat.reduceBNe, reduceCtorEq, ↓reduceIte, implies_true, forall_const, Int.reduceNeg, Int.reduceToNat, Int.reduceLT, Int.reduceLE, Int.reduceAdd, Int.reduceSub, Int.reduceMul, Int.reducePow, Nat.reducePow, true_or, Option.isNone_some, Option.isNone_none, vcXPb, Tryd.f6, List.toList_toArray, arr4_zero, nat4_set1, nat4_setL, nat4_set0, hw1,bne_self_eq_false,g1]))
      · subst h1
        have g2 : (0 : Int) < (w2 : Int) := by omega
        (repeat' ((first | with_reducible (first | apply XR_cons | apply XR_consG | apply XR_nil | apply cF_pure1 (by assumption) | apply cF_ev1 (by assumption)) | with_reducible (first | apply X_regRS (id := 6) | apply X_regR (id := 6) | apply X_seqX (x := .seq (.region 6 _ false) _) | apply X_seqX (x := .seq (.seq (.region 6 _ false) _) _)) | refine X_of _ ?_ | with_reducible (first | exact ⟨_, rfl⟩ | refine And.intro ?_ ?_ | intro _)) <;> try simp -implicitDefEqProofs (maxSteps := 1000000) (disch := first | exact dz1 | fail) only [vcR, vcT, Int.reduceBEq, Int.reduceBNe, Int.reduceEq, Int.reduceNe, Ab.part, Nat.reduceAdd, Nat.reduceMul, Nat.reduceLeDiff, Nat.reduceEqDiff, Nat.reduceBEq, Nat.reduceBNe, reduceCtorEq, ↓reduceIte, implies_true, forall_const, Int.reduceNeg, Int.reduceToNat, Int.reduceLT, Int.reduceLE, Int.reduceAdd, Int.reduceSub, Int.reduceMul, Int.reducePow, Nat.reducePow, true_or, Option.isNone_some, Option.isNone_none, vcXPb, Tryd.f6, List.toList_toArray, arr4_zero, nat4_set1, nat4_setL, nat4_set0, hw1,hw2,bne_self_eq_false,g2]))
      · subst h1 h2
        have g3 : (0 : Int) < (w3 : Int) := by omega
        (repeat' ((first | with_reducible (first | apply XR_cons | apply XR_consG | apply XR_nil | apply cF_pure1 (by assumption) | apply cF_ev1 (by assumption)) | with_reducible (first | apply X_regRS (id := 6) | apply X_regR (id := 6) | apply X_seqX (x := .seq (.region 6 _ false) _) | apply X_seqX (x := .seq (.seq (.region 6 _ false) _) _)) | refine X_of _ ?_ | with_reducible (first | exact ⟨_, rfl⟩ | refine And.intro ?_ ?_ | intro _)) <;> try simp -implicitDefEqProofs (maxSteps := 1000000) (disch := first | exact dz1 | fail) only [vcR, vcT, Int.reduceBEq, Int.reduceBNe, Int.reduceEq, Int.reduceNe, Ab.part, Nat.reduceAdd, Nat.reduceMul, Nat.reduceLeDiff, Nat.reduceEqDiff, Nat.reduceBEq, Nat.reduceBNe, reduceCtorEq, ↓reduceIte, implies_true, forall_const, Int.reduceNeg, Int.reduceToNat, Int.reduceLT, Int.reduceLE, Int.reduceAdd, Int.reduceSub, Int.reduceMul, Int.reducePow, Nat.reducePow, true_or, Option.isNone_some, Option.isNone_none, vcXPb, Tryd.f6, List.toList_toArray, arr4_zero, nat4_set1, nat4_setL, nat4_set0, hw1,hw2,hw3,bne_self_eq_false,g3]))
      · subst h1 h2 h3
        have g4 : (1048576 : Int) ≤ (w0 : Int) := by omega
        (repeat' ((first | with_reducible (first | apply XR_cons | apply XR_consG | apply XR_nil | apply cF_pure1 (by assumption) | apply cF_ev1 (by assumption)) | with_reducible (first | apply X_regRS (id := 6) | apply X_regR (id := 6) | apply X_seqX (x := .seq (.region 6 _ false) _) | apply X_seqX (x := .seq (.seq (.region 6 _ false) _) _)) | refine X_of _ ?_ | with_reducible (first | exact ⟨_, rfl⟩ | refine And.intro ?_ ?_ | intro _)) <;> try simp -implicitDefEqProofs (maxSteps := 1000000) (disch := first | exact dz1 | fail) only [vcR, vcT, Int.reduceBEq, Int.reduceBNe, Int.reduceEq, Int.reduceNe, Ab.part, Nat.reduceAdd, Nat.reduceMul, Nat.reduceLeDiff, Nat.reduceEqDiff, Nat.reduceBEq, Nat.reduceBNe, reduceCtorEq, ↓reduceIte, implies_true, forall_const, Int.reduceNeg, Int.reduceToNat, Int.reduceLT, Int.reduceLE, Int.reduceAdd, Int.reduceSub, Int.reduceMul, Int.reducePow, Nat.reducePow, true_or, Option.isNone_some, Option.isNone_none, vcXPb, Tryd.f6, List.toList_toArray, arr4_zero, nat4_set1, nat4_setL, nat4_set0, hw0,hw1,hw2,hw3,bne_self_eq_false,g4]))
    · have h0' : (f != 0) = true := by simpa using h0
      (repeat' ((first | with_reducible (first | apply XR_cons | apply XR_consG | apply XR_nil | apply cF_pure1 (by assumption) | apply cF_ev1 (by assumption)) | with_reducible (first | apply X_regRS (id := 6) | apply X_regR (id := 6) | apply X_seqX (x := .seq (.region 6 _ false) _) | apply X_seqX (x := .seq (.seq (.region 6 _ false) _) _)) | refine X_of _ ?_ | with_reducible (first | exact ⟨_, rfl⟩ | refine And.intro ?_ ?_ | intro _)) <;> try simp -implicitDefEqProofs (maxSteps := 1000000) (disch := first | exact dz1 | fail) only [vcR, vcT, Int.reduceBEq, Int.reduceBNe, Int.reduceEq, Int.reduceNe, Ab.part, Nat.reduceAdd, Nat.reduceMul, Nat.reduceLeDiff, Nat.reduceEqDiff, Nat.reduceBEq, Nat.reduceBNe, reduceCtorEq, ↓reduceIte, implies_true, forall_const, Int.reduceNeg, Int.reduceToNat, Int.reduceLT, Int.reduceLE, Int.reduceAdd, Int.reduceSub, Int.reduceMul, Int.reducePow, Nat.reducePow, true_or, Option.isNone_some, Option.isNone_none, vcXPb, Tryd.f6, List.toList_toArray, arr4_zero, nat4_set1, nat4_setL, nat4_set0, h0']))
end Go.Proofs.YthniflakjkbpiaaDoor
