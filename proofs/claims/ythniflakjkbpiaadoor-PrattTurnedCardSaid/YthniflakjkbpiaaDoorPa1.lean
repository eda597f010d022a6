/-
  pratt: what factors make.
-/
import Derived.Test.YthniflakjkbpiaaDoorPb
import Derived.Test.YthniflakjkbpiaaDoorPv
import Derived.Test.YthniflakjkbpiaaDoorKL
namespace Go.Proofs.YthniflakjkbpiaaDoor
open Go Go.Ab
set_option linter.unusedSimpArgs false
set_option linter.unusedVariables false
set_option linter.defProp false
set_option maxHeartbeats 20000000
set_option maxRecDepth 100000

/-- The lower four words alone. -/
def low4 (X : Nat) (j : Nat) : Nat := if j = 3 then wd X 3 else if j = 2 then wd X 2 else if j = 1 then wd X 1 else if j = 0 then wd X 0 else 0
theorem low4_lt (X j : Nat) : low4 X j < 18446744073709551616 := by
  unfold low4
  repeat' split
  all_goals first | exact wd_lt _ _ | decide
theorem low4_lits {X : Nat} : litsA Tryd.prog 47 (some (arr 8 fun j => if j = 3 then wd X 3 else if j = 2 then wd X 2 else if j = 1 then wd X 1 else if j = 0 then wd X 0 else 0)) = some (lits 8 (low4 X)) :=
  litsA_arr (f := low4 X) tf47_u (by kernel_rfl : Tryd.prog.underlying 24 = some (.int .u64)) (by kernel_rfl) (by kernel_rfl) fun i _ => low4_lt X i
theorem nat8_tk {X : Nat} : List.take 4 (nat8 X) = nat4 X := rfl
theorem low4_eq {X : Nat} (h : X < 2 ^ 256 * 2 ^ 256) : litsEq (lits 8 (wd X)) (lits 8 (low4 X)) = decide (X < 2 ^ 256) := by
  rw [litsEq_lits, Bool.eq_iff_iff, decide_eq_true_iff, decide_eq_true_iff]
  constructor
  · intro hh
    have h0 : X / 2 ^ 256 = 0 := wd_inj4 _ 0 ((Nat.div_lt_iff_lt_mul (Nat.two_pow_pos _)).2 h) (Nat.two_pow_pos _) fun k hk => by
      rw [wd_shift, wd_zero, hh (k + 4) (by omega)]
      unfold low4
      rw [if_neg (by omega), if_neg (by omega), if_neg (by omega), if_neg (by omega)]
    rcases (Nat.div_eq_zero_iff).1 h0 with h1 | h1
    · exact absurd h1 (Nat.ne_of_gt (Nat.two_pow_pos _))
    · exact h1
  · intro hh i hi
    unfold low4
    split
    · rename_i e; rw [e]
    split
    · rename_i e; rw [e]
    split
    · rename_i e; rw [e]
    split
    · rename_i e; rw [e]
    exact wd_big2 X i 256 hh (by omega)


theorem product_m (x : Option Addr) (n c : Nat) (P : Nat → Nat) (E : Nat → Int) (hP : ∀ i, P i < 2 ^ 256) (hE : ∀ i, -9223372036854775808 ≤ E i ∧ E i < 9223372036854775808) (hn : n < 9223372036854775808) :
    PureM Tryd.prog 11 [.s (.v (.slice x n c))] (facs x n P E) (.tup [.agg (nat4 (prS n P E).1), .s (.v (.int .i64 (prS n P E).2))]) := by
  obtain ⟨r, hr⟩ : ∃ r, prS n P E = r := ⟨_, rfl⟩
  rw [hr]
  (refine pureM_of Tryd.func11 rfl (by simp only [List.length_cons, List.length_nil, List.map_cons, List.map_nil, List.nodup_cons, List.nodup_nil, List.mem_cons, Nat.reduceAdd, Nat.reduceEqDiff, or_false, not_false_eq_true, forall_eq_or_imp, forall_eq, or_self, Nat.reduceLT, Nat.reduceLeDiff, and_self, List.forall_mem_cons, List.not_mem_nil, false_implies, implies_true, and_true, true_and, vcOPb]) (by simp only [List.length_cons, List.length_nil, List.map_cons, List.map_nil, List.nodup_cons, List.nodup_nil, List.mem_cons, Nat.reduceAdd, Nat.reduceEqDiff, or_false, not_false_eq_true, forall_eq_or_imp, forall_eq, or_self, Nat.reduceLT, Nat.reduceLeDiff, and_self, List.forall_mem_cons, List.not_mem_nil, false_implies, implies_true, and_true, true_and, vcOPb]) fun w hpre => ?_; simp only [List.length_cons, List.length_nil, Tryd.ntmps11, Nat.reduceAdd, Nat.reduceSub, List.replicate_succ, List.replicate_zero, List.cons_append, List.nil_append])
  have hN : Kn (ctx0 Tryd.prog w) (facsAt Evo.none x n P E) := facs_kn hpre
  have hadr : n ≠ 0 → ∃ ad, x = some ad := fun h => by
    rcases hpre with h0 | ⟨ad, h0, _⟩
    · omega
    · exact ⟨ad, h0⟩
  clear hpre
  by_cases h40 : 40 < n
  · have h40' : (40 : Int) < (n : Int) := by omega
    rw [prS_long h40] at hr
    subst hr
    (repeat' ((first | with_reducible (first | apply XR_slice | apply XR_arrAt | apply XR_cons | apply XR_consG | apply XR_nil | apply cF_pure1 (by assumption) | apply cF_pure1 (mul_c _ _ bd1 bd1)) | with_reducible (first | apply X_regRS (id := 7) | apply X_regR (id := 7) | apply X_seqX (x := .seq (.region 7 _ false) _) | apply X_seqX (x := .seq (.seq (.region 7 _ false) _) _) | apply X_regRS (id := 9) | apply X_regR (id := 9) | apply X_seqX (x := .seq (.region 9 _ false) _) | apply X_seqX (x := .seq (.seq (.region 9 _ false) _) _) | apply X_regRS (id := 20) | apply X_regR (id := 20) | apply X_seqX (x := .seq (.region 20 _ false) _) | apply X_seqX (x := .seq (.seq (.region 20 _ false) _) _) | apply X_regRS (id := 22) | apply X_regR (id := 22) | apply X_seqX (x := .seq (.region 22 _ false) _) | apply X_seqX (x := .seq (.seq (.region 22 _ false) _) _)) | refine X_of _ ?_ | with_reducible (first | exact ⟨_, rfl⟩ | refine And.intro ?_ ?_ | intro _)) <;> try simp -implicitDefEqProofs (maxSteps := 1000000) (disch := first | exact dz1 | fail) only [vcR, vcT, Int.reduceBEq, Int.reduceBNe, Int.reduceEq, Int.reduceNe, Ab.part, Nat.reduceAdd, Nat.reduceMul, Nat.reduceLeDiff, Nat.reduceEqDiff, Nat.reduceBEq, Nat.reduceBNe, reduceCtorEq, ↓reduceIte, implies_true, forall_const, Int.reduceNeg, Int.reduceToNat, Int.reduceLT, Int.reduceLE, Int.reduceAdd, Int.reduceSub, Int.reduceMul, Int.reducePow, Nat.reducePow, true_or, Option.isNone_some, Option.isNone_none, vcXPb, Tryd.f11, List.toList_toArray, arr4_zero, nat4_set1, nat4_setL, nat4_set0, h40']))
  · have h40' : ¬ (40 : Int) < (n : Int) := by omega
    (repeat' ((first | with_reducible (first | apply XR_slice | apply XR_arrAt | apply XR_cons | apply XR_consG | apply XR_nil | apply cF_pure1 (by assumption) | apply cF_pure1 (mul_c _ _ bd1 bd1)) | with_reducible (first | apply X_regRS (id := 7) | apply X_regR (id := 7) | apply X_seqX (x := .seq (.region 7 _ false) _) | apply X_seqX (x := .seq (.seq (.region 7 _ false) _) _) | apply X_regRS (id := 9) | apply X_regR (id := 9) | apply X_seqX (x := .seq (.region 9 _ false) _) | apply X_seqX (x := .seq (.seq (.region 9 _ false) _) _) | apply X_regRS (id := 20) | apply X_regR (id := 20) | apply X_seqX (x := .seq (.region 20 _ false) _) | apply X_seqX (x := .seq (.seq (.region 20 _ false) _) _) | apply X_regRS (id := 22) | apply X_regR (id := 22) | apply X_seqX (x := .seq (.region 22 _ false) _) | apply X_seqX (x := .seq (.seq (.region 22 _ false) _) _)) | refine X_of _ ?_ | with_reducible (first | exact ⟨_, rfl⟩ | refine And.intro ?_ ?_ | intro _)) <;> try simp -implicitDefEqProofs (maxSteps := 1000000) (disch := first | exact dz1 | fail) only [vcR, vcT, Int.reduceBEq, Int.reduceBNe, Int.reduceEq, Int.reduceNe, Ab.part, Nat.reduceAdd, Nat.reduceMul, Nat.reduceLeDiff, Nat.reduceEqDiff, Nat.reduceBEq, Nat.reduceBNe, reduceCtorEq, ↓reduceIte, implies_true, forall_const, Int.reduceNeg, Int.reduceToNat, Int.reduceLT, Int.reduceLE, Int.reduceAdd, Int.reduceSub, Int.reduceMul, Int.reducePow, Nat.reducePow, true_or, Option.isNone_some, Option.isNone_none, vcXPb, Tryd.f11, List.toList_toArray, arr4_zero, nat4_set1, nat4_setL, nat4_set0, h40']))
    refine X_loop (ι := Nat) (fun i => i ≤ n ∧ ∀ j, j < i → eBad E j = false) (fun i => n - i) [4, 6, 17, 18, 19, 20, 21, 22, 23, 24, 25, 26, 27, 28, 29, 30, 31, 32, 33, 34, 35, 36, 37]
      (fun i => [(4, .s (.v (.bool (anyB i fun j => P j == 0)))), (17, .s (.v (.int .i64 (i : Nat))))])
      (fun i => []) 0 (shape_of fun i => ?_) (by decide) ?_ ?_
    · simp only [List.length_cons, List.length_nil, List.map_cons, List.map_nil, List.nodup_cons, List.nodup_nil, List.mem_cons, Nat.reduceAdd, Nat.reduceEqDiff, or_false, not_false_eq_true, forall_eq_or_imp, forall_eq, or_self, Nat.reduceLT, Nat.reduceLeDiff, and_self, List.forall_mem_cons, List.not_mem_nil, false_implies, implies_true, and_true, true_and, vcOPb]
    · simp -implicitDefEqProofs (maxSteps := 1000000) (disch := first | exact dz1 | fail) only [vcR, vcT, Int.reduceBEq, Int.reduceBNe, Int.reduceEq, Int.reduceNe, Ab.part, Nat.reduceAdd, Nat.reduceMul, Nat.reduceLeDiff, Nat.reduceEqDiff, Nat.reduceBEq, Nat.reduceBNe, reduceCtorEq, ↓reduceIte, implies_true, forall_const, Int.reduceNeg, Int.reduceToNat, Int.reduceLT, Int.reduceLE, Int.reduceAdd, Int.reduceSub, Int.reduceMul, Int.reducePow, Nat.reducePow, true_or, Option.isNone_some, Option.isNone_none, vcXPb, Tryd.f11, List.toList_toArray, again_eq]
      exact ⟨rfl, _, rfl⟩
    · intro i us ⟨hi, hbad⟩
      by_cases h : i < n
      · obtain ⟨ad, rfl⟩ := hadr (by omega)
        have hx : ∀ {K : TV → HE → Prop}, xext (ctx0 Tryd.prog w) (some true) 5 (ad.add (i * 5)) K = K (.agg (fac (P i) (E i))) .none := fun {K} => hN.fac h
        have hPi := hP i
        have hl0 : litsEq (lits 4 (wd (P i))) (lits 4 (wd 0)) = (P i == 0) := litsEq_nat4 hPi (by decide)
        by_cases he1 : E i < 1
        · rw [prS_bad h40 h (eBad_true.2 (.inl he1))] at hr
          subst hr
          (repeat' ((first | with_reducible (first | apply XR_slice | apply XR_arrAt | apply XR_cons | apply XR_consG | apply XR_nil | apply cF_pure1 (by assumption) | apply cF_pure1 (mul_c _ _ bd1 bd1)) | with_reducible (first | apply X_regRS (id := 7) | apply X_regR (id := 7) | apply X_seqX (x := .seq (.region 7 _ false) _) | apply X_seqX (x := .seq (.seq (.region 7 _ false) _) _) | apply X_regRS (id := 9) | apply X_regR (id := 9) | apply X_seqX (x := .seq (.region 9 _ false) _) | apply X_seqX (x := .seq (.seq (.region 9 _ false) _) _) | apply X_regRS (id := 20) | apply X_regR (id := 20) | apply X_seqX (x := .seq (.region 20 _ false) _) | apply X_seqX (x := .seq (.seq (.region 20 _ false) _) _) | apply X_regRS (id := 22) | apply X_regR (id := 22) | apply X_seqX (x := .seq (.region 22 _ false) _) | apply X_seqX (x := .seq (.seq (.region 22 _ false) _) _)) | refine X_of _ ?_ | with_reducible (first | exact ⟨_, rfl⟩ | refine And.intro ?_ ?_ | intro _)) <;> try simp -implicitDefEqProofs (maxSteps := 1000000) (disch := first | exact dz1 | fail) only [vcR, vcT, Int.reduceBEq, Int.reduceBNe, Int.reduceEq, Int.reduceNe, Ab.part, Nat.reduceAdd, Nat.reduceMul, Nat.reduceLeDiff, Nat.reduceEqDiff, Nat.reduceBEq, Nat.reduceBNe, reduceCtorEq, ↓reduceIte, implies_true, forall_const, Int.reduceNeg, Int.reduceToNat, Int.reduceLT, Int.reduceLE, Int.reduceAdd, Int.reduceSub, Int.reduceMul, Int.reducePow, Nat.reducePow, true_or, Option.isNone_some, Option.isNone_none, vcXPb, Tryd.f11, List.toList_toArray, arr4_zero, nat4_set1, nat4_setL, nat4_set0, hx,he1]))
        · by_cases he2 : 255 < E i
          · rw [prS_bad h40 h (eBad_true.2 (.inr he2))] at hr
            subst hr
            (repeat' ((first | with_reducible (first | apply XR_slice | apply XR_arrAt | apply XR_cons | apply XR_consG | apply XR_nil | apply cF_pure1 (by assumption) | apply cF_pure1 (mul_c _ _ bd1 bd1)) | with_reducible (first | apply X_regRS (id := 7) | apply X_regR (id := 7) | apply X_seqX (x := .seq (.region 7 _ false) _) | apply X_seqX (x := .seq (.seq (.region 7 _ false) _) _) | apply X_regRS (id := 9) | apply X_regR (id := 9) | apply X_seqX (x := .seq (.region 9 _ false) _) | apply X_seqX (x := .seq (.seq (.region 9 _ false) _) _) | apply X_regRS (id := 20) | apply X_regR (id := 20) | apply X_seqX (x := .seq (.region 20 _ false) _) | apply X_seqX (x := .seq (.seq (.region 20 _ false) _) _) | apply X_regRS (id := 22) | apply X_regR (id := 22) | apply X_seqX (x := .seq (.region 22 _ false) _) | apply X_seqX (x := .seq (.seq (.region 22 _ false) _) _)) | refine X_of _ ?_ | with_reducible (first | exact ⟨_, rfl⟩ | refine And.intro ?_ ?_ | intro _)) <;> try simp -implicitDefEqProofs (maxSteps := 1000000) (disch := first | exact dz1 | fail) only [vcR, vcT, Int.reduceBEq, Int.reduceBNe, Int.reduceEq, Int.reduceNe, Ab.part, Nat.reduceAdd, Nat.reduceMul, Nat.reduceLeDiff, Nat.reduceEqDiff, Nat.reduceBEq, Nat.reduceBNe, reduceCtorEq, ↓reduceIte, implies_true, forall_const, Int.reduceNeg, Int.reduceToNat, Int.reduceLT, Int.reduceLE, Int.reduceAdd, Int.reduceSub, Int.reduceMul, Int.reducePow, Nat.reducePow, true_or, Option.isNone_some, Option.isNone_none, vcXPb, Tryd.f11, List.toList_toArray, arr4_zero, nat4_set1, nat4_setL, nat4_set0, hx,he1,he2]))
          · have hb : eBad E i = false := eBad_false.2 ⟨by omega, by omega⟩
            have hbad' : ∀ j, j < i + 1 → eBad E j = false := fun j hj => by
              by_cases hji : j = i
              · subst hji; exact hb
              · exact hbad j (by omega)
            obtain ⟨z, hz⟩ : ∃ z, (anyB i fun j => P j == 0) = z := ⟨_, rfl⟩
            have hz' : (anyB (i + 1) fun j => P j == 0) = (z || (P i == 0)) := by rw [anyB_succ, hz]
            rw [hz]
            clear hadr hbad hb hE hP hr hz
            cases z with
            | true =>
              (repeat' ((first | with_reducible (first | apply XR_slice | apply XR_arrAt | apply XR_cons | apply XR_consG | apply XR_nil | apply cF_pure1 (by assumption) | apply cF_pure1 (mul_c _ _ bd1 bd1)) | with_reducible (first | apply X_regRS (id := 7) | apply X_regR (id := 7) | apply X_seqX (x := .seq (.region 7 _ false) _) | apply X_seqX (x := .seq (.seq (.region 7 _ false) _) _) | apply X_regRS (id := 9) | apply X_regR (id := 9) | apply X_seqX (x := .seq (.region 9 _ false) _) | apply X_seqX (x := .seq (.seq (.region 9 _ false) _) _) | apply X_regRS (id := 20) | apply X_regR (id := 20) | apply X_seqX (x := .seq (.region 20 _ false) _) | apply X_seqX (x := .seq (.seq (.region 20 _ false) _) _) | apply X_regRS (id := 22) | apply X_regR (id := 22) | apply X_seqX (x := .seq (.region 22 _ false) _) | apply X_seqX (x := .seq (.seq (.region 22 _ false) _) _)) | refine X_of _ ?_ | with_reducible (first | exact ⟨_, rfl⟩ | refine And.intro ?_ ?_ | intro _)) <;> try simp -implicitDefEqProofs (maxSteps := 1000000) (disch := first | exact dz1 | fail) only [vcR, vcT, Int.reduceBEq, Int.reduceBNe, Int.reduceEq, Int.reduceNe, Ab.part, Nat.reduceAdd, Nat.reduceMul, Nat.reduceLeDiff, Nat.reduceEqDiff, Nat.reduceBEq, Nat.reduceBNe, reduceCtorEq, ↓reduceIte, implies_true, forall_const, Int.reduceNeg, Int.reduceToNat, Int.reduceLT, Int.reduceLE, Int.reduceAdd, Int.reduceSub, Int.reduceMul, Int.reducePow, Nat.reducePow, true_or, Option.isNone_some, Option.isNone_none, vcXPb, Tryd.f11, List.toList_toArray, arr4_zero, nat4_set1, nat4_setL, nat4_set0, hx,he1,he2]))
              refine ⟨i + 1, by omega, ?_⟩
              simp -implicitDefEqProofs (maxSteps := 1000000) (disch := first | exact dz1 | fail) only [vcR, vcT, Int.reduceBEq, Int.reduceBNe, Int.reduceEq, Int.reduceNe, Ab.part, Nat.reduceAdd, Nat.reduceMul, Nat.reduceLeDiff, Nat.reduceEqDiff, Nat.reduceBEq, Nat.reduceBNe, reduceCtorEq, ↓reduceIte, implies_true, forall_const, Int.reduceNeg, Int.reduceToNat, Int.reduceLT, Int.reduceLE, Int.reduceAdd, Int.reduceSub, Int.reduceMul, Int.reducePow, Nat.reducePow, true_or, Option.isNone_some, Option.isNone_none, vcXPb, Tryd.f11, List.toList_toArray, again_eq]
              exact ⟨hbad', by rw [hz']; rfl, _, rfl⟩
            | false =>
              (repeat' ((first | with_reducible (first | apply XR_slice | apply XR_arrAt | apply XR_cons | apply XR_consG | apply XR_nil | apply cF_pure1 (by assumption) | apply cF_pure1 (mul_c _ _ bd1 bd1)) | with_reducible (first | apply X_regRS (id := 7) | apply X_regR (id := 7) | apply X_seqX (x := .seq (.region 7 _ false) _) | apply X_seqX (x := .seq (.seq (.region 7 _ false) _) _) | apply X_regRS (id := 9) | apply X_regR (id := 9) | apply X_seqX (x := .seq (.region 9 _ false) _) | apply X_seqX (x := .seq (.seq (.region 9 _ false) _) _) | apply X_regRS (id := 20) | apply X_regR (id := 20) | apply X_seqX (x := .seq (.region 20 _ false) _) | apply X_seqX (x := .seq (.seq (.region 20 _ false) _) _) | apply X_regRS (id := 22) | apply X_regR (id := 22) | apply X_seqX (x := .seq (.region 22 _ false) _) | apply X_seqX (x := .seq (.seq (.region 22 _ false) _) _)) | refine X_of _ ?_ | with_reducible (first | exact ⟨_, rfl⟩ | refine And.intro ?_ ?_ | intro _)) <;> try simp -implicitDefEqProofs (maxSteps := 1000000) (disch := first | exact dz1 | fail) only [vcR, vcT, Int.reduceBEq, Int.reduceBNe, Int.reduceEq, Int.reduceNe, Ab.part, Nat.reduceAdd, Nat.reduceMul, Nat.reduceLeDiff, Nat.reduceEqDiff, Nat.reduceBEq, Nat.reduceBNe, reduceCtorEq, ↓reduceIte, implies_true, forall_const, Int.reduceNeg, Int.reduceToNat, Int.reduceLT, Int.reduceLE, Int.reduceAdd, Int.reduceSub, Int.reduceMul, Int.reducePow, Nat.reducePow, true_or, Option.isNone_some, Option.isNone_none, vcXPb, Tryd.f11, List.toList_toArray, arr4_zero, nat4_set1, nat4_setL, nat4_set0, hx,he1,he2,hl0]))
              refine ⟨i + 1, by omega, ?_⟩
              simp -implicitDefEqProofs (maxSteps := 1000000) (disch := first | exact dz1 | fail) only [vcR, vcT, Int.reduceBEq, Int.reduceBNe, Int.reduceEq, Int.reduceNe, Ab.part, Nat.reduceAdd, Nat.reduceMul, Nat.reduceLeDiff, Nat.reduceEqDiff, Nat.reduceBEq, Nat.reduceBNe, reduceCtorEq, ↓reduceIte, implies_true, forall_const, Int.reduceNeg, Int.reduceToNat, Int.reduceLT, Int.reduceLE, Int.reduceAdd, Int.reduceSub, Int.reduceMul, Int.reducePow, Nat.reducePow, true_or, Option.isNone_some, Option.isNone_none, vcXPb, Tryd.f11, List.toList_toArray, again_eq]
              exact ⟨hbad', by rw [hz', Bool.false_or], _, rfl⟩
      · have : i = n := by omega
        subst this
        obtain ⟨z, hz⟩ : ∃ z, (anyB i fun j => P j == 0) = z := ⟨_, rfl⟩
        rw [hz]
        cases z with
        | true =>
          rw [prS_zero h40 hbad hz] at hr
          subst hr
          (repeat' ((first | with_reducible (first | apply XR_slice | apply XR_arrAt | apply XR_cons | apply XR_consG | apply XR_nil | apply cF_pure1 (by assumption) | apply cF_pure1 (mul_c _ _ bd1 bd1)) | with_reducible (first | apply X_regRS (id := 7) | apply X_regR (id := 7) | apply X_seqX (x := .seq (.region 7 _ false) _) | apply X_seqX (x := .seq (.seq (.region 7 _ false) _) _) | apply X_regRS (id := 9) | apply X_regR (id := 9) | apply X_seqX (x := .seq (.region 9 _ false) _) | apply X_seqX (x := .seq (.seq (.region 9 _ false) _) _) | apply X_regRS (id := 20) | apply X_regR (id := 20) | apply X_seqX (x := .seq (.region 20 _ false) _) | apply X_seqX (x := .seq (.seq (.region 20 _ false) _) _) | apply X_regRS (id := 22) | apply X_regR (id := 22) | apply X_seqX (x := .seq (.region 22 _ false) _) | apply X_seqX (x := .seq (.seq (.region 22 _ false) _) _)) | refine X_of _ ?_ | with_reducible (first | exact ⟨_, rfl⟩ | refine And.intro ?_ ?_ | intro _)) <;> try simp -implicitDefEqProofs (maxSteps := 1000000) (disch := first | exact dz1 | fail) only [vcR, vcT, Int.reduceBEq, Int.reduceBNe, Int.reduceEq, Int.reduceNe, Ab.part, Nat.reduceAdd, Nat.reduceMul, Nat.reduceLeDiff, Nat.reduceEqDiff, Nat.reduceBEq, Nat.reduceBNe, reduceCtorEq, ↓reduceIte, implies_true, forall_const, Int.reduceNeg, Int.reduceToNat, Int.reduceLT, Int.reduceLE, Int.reduceAdd, Int.reduceSub, Int.reduceMul, Int.reducePow, Nat.reducePow, true_or, Option.isNone_some, Option.isNone_none, vcXPb, Tryd.f11, List.toList_toArray, arr4_zero, nat4_set1, nat4_setL, nat4_set0]))
        | false =>
          have hpos := zero_pos hz
          (repeat' ((first | with_reducible (first | apply XR_slice | apply XR_arrAt | apply XR_cons | apply XR_consG | apply XR_nil | apply cF_pure1 (by assumption) | apply cF_pure1 (mul_c _ _ bd1 bd1)) | with_reducible (first | apply X_regRS (id := 7) | apply X_regR (id := 7) | apply X_seqX (x := .seq (.region 7 _ false) _) | apply X_seqX (x := .seq (.seq (.region 7 _ false) _) _) | apply X_regRS (id := 9) | apply X_regR (id := 9) | apply X_seqX (x := .seq (.region 9 _ false) _) | apply X_seqX (x := .seq (.seq (.region 9 _ false) _) _) | apply X_regRS (id := 20) | apply X_regR (id := 20) | apply X_seqX (x := .seq (.region 20 _ false) _) | apply X_seqX (x := .seq (.seq (.region 20 _ false) _) _) | apply X_regRS (id := 22) | apply X_regR (id := 22) | apply X_seqX (x := .seq (.region 22 _ false) _) | apply X_seqX (x := .seq (.seq (.region 22 _ false) _) _)) | refine X_of _ ?_ | with_reducible (first | exact ⟨_, rfl⟩ | refine And.intro ?_ ?_ | intro _)) <;> try simp -implicitDefEqProofs (maxSteps := 1000000) (disch := first | exact dz1 | fail) only [vcR, vcT, Int.reduceBEq, Int.reduceBNe, Int.reduceEq, Int.reduceNe, Ab.part, Nat.reduceAdd, Nat.reduceMul, Nat.reduceLeDiff, Nat.reduceEqDiff, Nat.reduceBEq, Nat.reduceBNe, reduceCtorEq, ↓reduceIte, implies_true, forall_const, Int.reduceNeg, Int.reduceToNat, Int.reduceLT, Int.reduceLE, Int.reduceAdd, Int.reduceSub, Int.reduceMul, Int.reducePow, Nat.reducePow, true_or, Option.isNone_some, Option.isNone_none, vcXPb, Tryd.f11, List.toList_toArray, arr4_zero, nat4_set1, nat4_setL, nat4_set0]))
          refine X_loop (ι := Nat) (fun k => k ≤ i ∧ prT P E k < 2 ^ 256) (fun k => i - k) [9, 10, 43, 44, 45, 46, 47, 48, 49, 50, 51, 52, 53, 54, 55, 56, 57, 58, 59, 60, 61, 62, 63, 64, 65, 66, 67, 68, 69, 70, 71]
            (fun k => [(43, .s (.v (.int .i64 (k : Nat))))])
            (fun k => [(1, nat4 (prT P E k))]) 0 (shape_of fun k => ?_) (by decide) ?_ ?_
          · simp only [List.length_cons, List.length_nil, List.map_cons, List.map_nil, List.nodup_cons, List.nodup_nil, List.mem_cons, Nat.reduceAdd, Nat.reduceEqDiff, or_false, not_false_eq_true, forall_eq_or_imp, forall_eq, or_self, Nat.reduceLT, Nat.reduceLeDiff, and_self, List.forall_mem_cons, List.not_mem_nil, false_implies, implies_true, and_true, true_and, vcOPb]
          · simp -implicitDefEqProofs (maxSteps := 1000000) (disch := first | exact dz1 | fail) only [vcR, vcT, Int.reduceBEq, Int.reduceBNe, Int.reduceEq, Int.reduceNe, Ab.part, Nat.reduceAdd, Nat.reduceMul, Nat.reduceLeDiff, Nat.reduceEqDiff, Nat.reduceBEq, Nat.reduceBNe, reduceCtorEq, ↓reduceIte, implies_true, forall_const, Int.reduceNeg, Int.reduceToNat, Int.reduceLT, Int.reduceLE, Int.reduceAdd, Int.reduceSub, Int.reduceMul, Int.reducePow, Nat.reducePow, true_or, Option.isNone_some, Option.isNone_none, vcXPb, Tryd.f11, List.toList_toArray, again_eq]
            exact ⟨by show 1 < _; decide, _, rfl, rfl⟩
          · intro k us2 ⟨hk, hkT⟩
            by_cases hki : k < i
            · obtain ⟨ad, rfl⟩ := hadr (by omega)
              have hx : ∀ {K : TV → HE → Prop}, xext (ctx0 Tryd.prog w) (some true) 5 (ad.add (k * 5)) K = K (.agg (fac (P k) (E k))) .none := fun {K} => hN.fac hki
              have hPk := hP k
              obtain ⟨e, he⟩ : ∃ e : Nat, E k = (e : Int) := ⟨(E k).toNat, by have := (eBad_false.1 (hbad k hki)).1; omega⟩
              have he255 : e ≤ 255 := by have := (eBad_false.1 (hbad k hki)).2; omega
              rw [he] at hx
              (repeat' ((first | with_reducible (first | apply XR_slice | apply XR_arrAt | apply XR_cons | apply XR_consG | apply XR_nil | apply cF_pure1 (by assumption) | apply cF_pure1 (mul_c _ _ bd1 bd1)) | with_reducible (first | apply X_regRS (id := 7) | apply X_regR (id := 7) | apply X_seqX (x := .seq (.region 7 _ false) _) | apply X_seqX (x := .seq (.seq (.region 7 _ false) _) _) | apply X_regRS (id := 9) | apply X_regR (id := 9) | apply X_seqX (x := .seq (.region 9 _ false) _) | apply X_seqX (x := .seq (.seq (.region 9 _ false) _) _) | apply X_regRS (id := 20) | apply X_regR (id := 20) | apply X_seqX (x := .seq (.region 20 _ false) _) | apply X_seqX (x := .seq (.seq (.region 20 _ false) _) _) | apply X_regRS (id := 22) | apply X_regR (id := 22) | apply X_seqX (x := .seq (.region 22 _ false) _) | apply X_seqX (x := .seq (.seq (.region 22 _ false) _) _)) | refine X_of _ ?_ | with_reducible (first | exact ⟨_, rfl⟩ | refine And.intro ?_ ?_ | intro _)) <;> try simp -implicitDefEqProofs (maxSteps := 1000000) (disch := first | exact dz1 | fail) only [vcR, vcT, Int.reduceBEq, Int.reduceBNe, Int.reduceEq, Int.reduceNe, Ab.part, Nat.reduceAdd, Nat.reduceMul, Nat.reduceLeDiff, Nat.reduceEqDiff, Nat.reduceBEq, Nat.reduceBNe, reduceCtorEq, ↓reduceIte, implies_true, forall_const, Int.reduceNeg, Int.reduceToNat, Int.reduceLT, Int.reduceLE, Int.reduceAdd, Int.reduceSub, Int.reduceMul, Int.reducePow, Nat.reducePow, true_or, Option.isNone_some, Option.isNone_none, vcXPb, Tryd.f11, List.toList_toArray, arr4_zero, nat4_set1, nat4_setL, nat4_set0, hx]))
              obtain ⟨t, ht⟩ : ∃ t, prT P E k = t := ⟨_, rfl⟩
              have hpart := fun q (hq : q ≤ e) => prT_part (E := E) (k := q) hpos hki (by rw [he]; exact hq)
              have hnext : prT P E (k + 1) = t * P k ^ e := by
                show prT P E k * P k ^ (E k).toNat = _
                rw [ht, he]; rfl
              rw [ht] at hkT hpart ⊢
              refine X_loop (ι := Nat) (fun q => q ≤ e ∧ t * P k ^ q < 2 ^ 256) (fun q => e - q) [10, 49, 50, 51, 52, 53, 54, 55, 56, 57, 58, 59, 60, 61, 62, 63, 64, 65, 66, 67, 68, 69, 70]
                (fun q => [(49, .s (.v (.int .i64 (q : Nat))))])
                (fun q => [(1, nat4 (t * P k ^ q))]) 0 (shape_of fun q => ?_) (by decide) ?_ ?_
              · simp only [List.length_cons, List.length_nil, List.map_cons, List.map_nil, List.nodup_cons, List.nodup_nil, List.mem_cons, Nat.reduceAdd, Nat.reduceEqDiff, or_false, not_false_eq_true, forall_eq_or_imp, forall_eq, or_self, Nat.reduceLT, Nat.reduceLeDiff, and_self, List.forall_mem_cons, List.not_mem_nil, false_implies, implies_true, and_true, true_and, vcOPb]
              · simp -implicitDefEqProofs (maxSteps := 1000000) (disch := first | exact dz1 | fail) only [vcR, vcT, Int.reduceBEq, Int.reduceBNe, Int.reduceEq, Int.reduceNe, Ab.part, Nat.reduceAdd, Nat.reduceMul, Nat.reduceLeDiff, Nat.reduceEqDiff, Nat.reduceBEq, Nat.reduceBNe, reduceCtorEq, ↓reduceIte, implies_true, forall_const, Int.reduceNeg, Int.reduceToNat, Int.reduceLT, Int.reduceLE, Int.reduceAdd, Int.reduceSub, Int.reduceMul, Int.reducePow, Nat.reducePow, true_or, Option.isNone_some, Option.isNone_none, vcXPb, Tryd.f11, List.toList_toArray, again_eq]
                exact ⟨by rw [Nat.pow_zero, Nat.mul_one]; exact hkT, _, by rw [Nat.pow_zero, Nat.mul_one], rfl⟩
              · intro q us3 ⟨hq, hqT⟩
                by_cases hqe : q < e
                · have hp1 := hpart (q + 1) hqe
                  rw [Nat.pow_succ, ← Nat.mul_assoc] at hp1
                  have hn1 : t * P k ^ (q + 1) = t * P k ^ q * P k := by rw [Nat.pow_succ, Nat.mul_assoc]
                  obtain ⟨o, ho⟩ : ∃ o, t * P k ^ q = o := ⟨_, rfl⟩
                  rw [ho] at hp1 hqT hn1 ⊢
                  by_cases hfit : o * P k < 2 ^ 256
                  · clear hr hpart hnext hadr hbad hP hE
                    have hX := low4_eq (X := o * P k) (Nat.mul_lt_mul'' hqT hPk)
                    rw [decide_eq_true hfit] at hX
                    (repeat' ((first | with_reducible (first | apply XR_slice | apply XR_arrAt | apply XR_cons | apply XR_consG | apply XR_nil | apply cF_pure1 (by assumption) | apply cF_pure1 (mul_c _ _ bd1 bd1)) | with_reducible (first | apply X_regRS (id := 7) | apply X_regR (id := 7) | apply X_seqX (x := .seq (.region 7 _ false) _) | apply X_seqX (x := .seq (.seq (.region 7 _ false) _) _) | apply X_regRS (id := 9) | apply X_regR (id := 9) | apply X_seqX (x := .seq (.region 9 _ false) _) | apply X_seqX (x := .seq (.seq (.region 9 _ false) _) _) | apply X_regRS (id := 20) | apply X_regR (id := 20) | apply X_seqX (x := .seq (.region 20 _ false) _) | apply X_seqX (x := .seq (.seq (.region 20 _ false) _) _) | apply X_regRS (id := 22) | apply X_regR (id := 22) | apply X_seqX (x := .seq (.region 22 _ false) _) | apply X_seqX (x := .seq (.seq (.region 22 _ false) _) _)) | refine X_of _ ?_ | with_reducible (first | exact ⟨_, rfl⟩ | refine And.intro ?_ ?_ | intro _)) <;> try simp -implicitDefEqProofs (maxSteps := 1000000) (disch := first | exact dz1 | fail) only [vcR, vcT, Int.reduceBEq, Int.reduceBNe, Int.reduceEq, Int.reduceNe, Ab.part, Nat.reduceAdd, Nat.reduceMul, Nat.reduceLeDiff, Nat.reduceEqDiff, Nat.reduceBEq, Nat.reduceBNe, reduceCtorEq, ↓reduceIte, implies_true, forall_const, Int.reduceNeg, Int.reduceToNat, Int.reduceLT, Int.reduceLE, Int.reduceAdd, Int.reduceSub, Int.reduceMul, Int.reducePow, Nat.reducePow, true_or, Option.isNone_some, Option.isNone_none, vcXPb, Tryd.f11, List.toList_toArray, arr4_zero, nat4_set1, nat4_setL, nat4_set0, low4_lits,hX,nat8_tk]))
                    refine ⟨q + 1, by omega, ?_⟩
                    simp -implicitDefEqProofs (maxSteps := 1000000) (disch := first | exact dz1 | fail) only [vcR, vcT, Int.reduceBEq, Int.reduceBNe, Int.reduceEq, Int.reduceNe, Ab.part, Nat.reduceAdd, Nat.reduceMul, Nat.reduceLeDiff, Nat.reduceEqDiff, Nat.reduceBEq, Nat.reduceBNe, reduceCtorEq, ↓reduceIte, implies_true, forall_const, Int.reduceNeg, Int.reduceToNat, Int.reduceLT, Int.reduceLE, Int.reduceAdd, Int.reduceSub, Int.reduceMul, Int.reducePow, Nat.reducePow, true_or, Option.isNone_some, Option.isNone_none, vcXPb, Tryd.f11, List.toList_toArray, again_eq]
                    exact ⟨_, by rw [hn1], rfl⟩
                  · rw [prS_over h40 hbad hz (by omega)] at hr
                    subst hr
                    clear hpart hnext hadr hbad hP hE
                    have hX := low4_eq (X := o * P k) (Nat.mul_lt_mul'' hqT hPk)
                    rw [decide_eq_false hfit] at hX
                    (repeat' ((first | with_reducible (first | apply XR_slice | apply XR_arrAt | apply XR_cons | apply XR_consG | apply XR_nil | apply cF_pure1 (by assumption) | apply cF_pure1 (mul_c _ _ bd1 bd1)) | with_reducible (first | apply X_regRS (id := 7) | apply X_regR (id := 7) | apply X_seqX (x := .seq (.region 7 _ false) _) | apply X_seqX (x := .seq (.seq (.region 7 _ false) _) _) | apply X_regRS (id := 9) | apply X_regR (id := 9) | apply X_seqX (x := .seq (.region 9 _ false) _) | apply X_seqX (x := .seq (.seq (.region 9 _ false) _) _) | apply X_regRS (id := 20) | apply X_regR (id := 20) | apply X_seqX (x := .seq (.region 20 _ false) _) | apply X_seqX (x := .seq (.seq (.region 20 _ false) _) _) | apply X_regRS (id := 22) | apply X_regR (id := 22) | apply X_seqX (x := .seq (.region 22 _ false) _) | apply X_seqX (x := .seq (.seq (.region 22 _ false) _) _)) | refine X_of _ ?_ | with_reducible (first | exact ⟨_, rfl⟩ | refine And.intro ?_ ?_ | intro _)) <;> try simp -implicitDefEqProofs (maxSteps := 1000000) (disch := first | exact dz1 | fail) only [vcR, vcT, Int.reduceBEq, Int.reduceBNe, Int.reduceEq, Int.reduceNe, Ab.part, Nat.reduceAdd, Nat.reduceMul, Nat.reduceLeDiff, Nat.reduceEqDiff, Nat.reduceBEq, Nat.reduceBNe, reduceCtorEq, ↓reduceIte, implies_true, forall_const, Int.reduceNeg, Int.reduceToNat, Int.reduceLT, Int.reduceLE, Int.reduceAdd, Int.reduceSub, Int.reduceMul, Int.reducePow, Nat.reducePow, true_or, Option.isNone_some, Option.isNone_none, vcXPb, Tryd.f11, List.toList_toArray, arr4_zero, nat4_set1, nat4_setL, nat4_set0, low4_lits,hX,nat8_tk]))
                · have : q = e := by omega
                  subst this
                  clear hr hpart hadr hbad hP hE
                  (repeat' ((first | with_reducible (first | apply XR_slice | apply XR_arrAt | apply XR_cons | apply XR_consG | apply XR_nil | apply cF_pure1 (by assumption) | apply cF_pure1 (mul_c _ _ bd1 bd1)) | with_reducible (first | apply X_regRS (id := 7) | apply X_regR (id := 7) | apply X_seqX (x := .seq (.region 7 _ false) _) | apply X_seqX (x := .seq (.seq (.region 7 _ false) _) _) | apply X_regRS (id := 9) | apply X_regR (id := 9) | apply X_seqX (x := .seq (.region 9 _ false) _) | apply X_seqX (x := .seq (.seq (.region 9 _ false) _) _) | apply X_regRS (id := 20) | apply X_regR (id := 20) | apply X_seqX (x := .seq (.region 20 _ false) _) | apply X_seqX (x := .seq (.seq (.region 20 _ false) _) _) | apply X_regRS (id := 22) | apply X_regR (id := 22) | apply X_seqX (x := .seq (.region 22 _ false) _) | apply X_seqX (x := .seq (.seq (.region 22 _ false) _) _)) | refine X_of _ ?_ | with_reducible (first | exact ⟨_, rfl⟩ | refine And.intro ?_ ?_ | intro _)) <;> try simp -implicitDefEqProofs (maxSteps := 1000000) (disch := first | exact dz1 | fail) only [vcR, vcT, Int.reduceBEq, Int.reduceBNe, Int.reduceEq, Int.reduceNe, Ab.part, Nat.reduceAdd, Nat.reduceMul, Nat.reduceLeDiff, Nat.reduceEqDiff, Nat.reduceBEq, Nat.reduceBNe, reduceCtorEq, ↓reduceIte, implies_true, forall_const, Int.reduceNeg, Int.reduceToNat, Int.reduceLT, Int.reduceLE, Int.reduceAdd, Int.reduceSub, Int.reduceMul, Int.reducePow, Nat.reducePow, true_or, Option.isNone_some, Option.isNone_none, vcXPb, Tryd.f11, List.toList_toArray, arr4_zero, nat4_set1, nat4_setL, nat4_set0]))
                  refine ⟨k + 1, by omega, ?_⟩
                  simp -implicitDefEqProofs (maxSteps := 1000000) (disch := first | exact dz1 | fail) only [vcR, vcT, Int.reduceBEq, Int.reduceBNe, Int.reduceEq, Int.reduceNe, Ab.part, Nat.reduceAdd, Nat.reduceMul, Nat.reduceLeDiff, Nat.reduceEqDiff, Nat.reduceBEq, Nat.reduceBNe, reduceCtorEq, ↓reduceIte, implies_true, forall_const, Int.reduceNeg, Int.reduceToNat, Int.reduceLT, Int.reduceLE, Int.reduceAdd, Int.reduceSub, Int.reduceMul, Int.reducePow, Nat.reducePow, true_or, Option.isNone_some, Option.isNone_none, vcXPb, Tryd.f11, List.toList_toArray, again_eq]
                  exact ⟨_, by rw [hnext], rfl⟩
            · have : k = i := by omega
              subst this
              rw [prS_fits h40 hbad hz hkT] at hr
              subst hr
              (repeat' ((first | with_reducible (first | apply XR_slice | apply XR_arrAt | apply XR_cons | apply XR_consG | apply XR_nil | apply cF_pure1 (by assumption) | apply cF_pure1 (mul_c _ _ bd1 bd1)) | with_reducible (first | apply X_regRS (id := 7) | apply X_regR (id := 7) | apply X_seqX (x := .seq (.region 7 _ false) _) | apply X_seqX (x := .seq (.seq (.region 7 _ false) _) _) | apply X_regRS (id := 9) | apply X_regR (id := 9) | apply X_seqX (x := .seq (.region 9 _ false) _) | apply X_seqX (x := .seq (.seq (.region 9 _ false) _) _) | apply X_regRS (id := 20) | apply X_regR (id := 20) | apply X_seqX (x := .seq (.region 20 _ false) _) | apply X_seqX (x := .seq (.seq (.region 20 _ false) _) _) | apply X_regRS (id := 22) | apply X_regR (id := 22) | apply X_seqX (x := .seq (.region 22 _ false) _) | apply X_seqX (x := .seq (.seq (.region 22 _ false) _) _)) | refine X_of _ ?_ | with_reducible (first | exact ⟨_, rfl⟩ | refine And.intro ?_ ?_ | intro _)) <;> try simp -implicitDefEqProofs (maxSteps := 1000000) (disch := first | exact dz1 | fail) only [vcR, vcT, Int.reduceBEq, Int.reduceBNe, Int.reduceEq, Int.reduceNe, Ab.part, Nat.reduceAdd, Nat.reduceMul, Nat.reduceLeDiff, Nat.reduceEqDiff, Nat.reduceBEq, Nat.reduceBNe, reduceCtorEq, ↓reduceIte, implies_true, forall_const, Int.reduceNeg, Int.reduceToNat, Int.reduceLT, Int.reduceLE, Int.reduceAdd, Int.reduceSub, Int.reduceMul, Int.reducePow, Nat.reducePow, true_or, Option.isNone_some, Option.isNone_none, vcXPb, Tryd.f11, List.toList_toArray, arr4_zero, nat4_set1, nat4_setL, nat4_set0]))
end Go.Proofs.YthniflakjkbpiaaDoor
