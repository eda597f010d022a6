/-
  Package pratt's statements: are there few factors?
-/
import Derived.Test.YthniflakjkbpiaaDoorPa8
namespace Go.Proofs.YthniflakjkbpiaaDoor
open Go Go.Ab
set_option linter.unusedSimpArgs false
set_option linter.unusedVariables false
set_option linter.defProp false
set_option maxHeartbeats 20000000
set_option maxRecDepth 100000

def big (n : Nat) : Bool := decide (8 < n) && decide (n ≤ 40)
def shS (l : Nat → Pf) (m : Nat) : Bool := !big m && !anyB (if m < 9 then m else 9) fun i => big (l i).n
theorem big_t {n : Nat} (h : 8 < n) (h' : n ≤ 40) : big n = true := by unfold big; rw [decide_eq_true h, decide_eq_true h']; rfl
theorem big_f1 {n : Nat} (h : ¬ 8 < n) : big n = false := by unfold big; rw [decide_eq_false h]; rfl
theorem big_f2 {n : Nat} (h : ¬ n ≤ 40) : big n = false := by unfold big; rw [decide_eq_false h, Bool.and_false]

def xInt (m : Nat) : Prop := ¬ (8 : Int) < (m : Int) ∨ ((8 : Int) < (m : Int) ∧ ¬ (m : Int) ≤ 40)


theorem short_m (x : Option Addr) (m c : Nat) (l : Nat → Pf) (hl : PfOk l) (hm : m < 9223372036854775808) :
    PureM Tryd.prog 13 [.s (.v (.slice x m c))] (fun w => prfs x m l w) (.s (.v (.bool (shS l m)))) := by
  obtain ⟨r, hr⟩ : ∃ r, shS l m = r := ⟨_, rfl⟩
  rw [hr]
  (refine pureM_of Tryd.func13 rfl (by simp only [List.length_cons, List.length_nil, List.map_cons, List.map_nil, List.nodup_cons, List.nodup_nil, List.mem_cons, Nat.reduceAdd, Nat.reduceEqDiff, or_false, not_false_eq_true, forall_eq_or_imp, forall_eq, or_self, Nat.reduceLT, Nat.reduceLeDiff, and_self, List.forall_mem_cons, List.not_mem_nil, false_implies, implies_true, and_true, true_and, vcOPb]) (by simp only [List.length_cons, List.length_nil, List.map_cons, List.map_nil, List.nodup_cons, List.nodup_nil, List.mem_cons, Nat.reduceAdd, Nat.reduceEqDiff, or_false, not_false_eq_true, forall_eq_or_imp, forall_eq, or_self, Nat.reduceLT, Nat.reduceLeDiff, and_self, List.forall_mem_cons, List.not_mem_nil, false_implies, implies_true, and_true, true_and, vcOPb]) fun w hpre => ?_; simp only [List.length_cons, List.length_nil, Tryd.ntmps13, Nat.reduceAdd, Nat.reduceSub, List.replicate_succ, List.replicate_zero, List.cons_append, List.nil_append])
  have hP0 := prfs_kn (P0 := Tryd.prog) hpre
  have hadr : m ≠ 0 → ∃ ad, x = some ad := fun h => by
    rcases hpre.1 with h0 | ⟨ad, h0, _⟩
    · omega
    · exact ⟨ad, h0⟩
  clear hpre
  by_cases hb : big m = true
  · have h8 : 8 < m ∧ m ≤ 40 := by
      unfold big at hb
      rw [Bool.and_eq_true, decide_eq_true_iff, decide_eq_true_iff] at hb
      exact hb
    have h1 : (8 : Int) < (m : Int) := by omega
    have h2 : (m : Int) ≤ 40 := by omega
    have : r = false := by rw [← hr]; unfold shS; rw [hb]; rfl
    subst this
    (repeat' ((first | with_reducible (first | apply XR_cons | apply XR_consG | apply XR_nil | apply cF_pure1 (by assumption) | apply cF_ev1 (by assumption)) | with_reducible (first | apply X_regRS (id := 1) | apply X_regR (id := 1) | apply X_seqX (x := .seq (.region 1 _ false) _) | apply X_seqX (x := .seq (.seq (.region 1 _ false) _) _) | apply X_regRS (id := 4) | apply X_regR (id := 4) | apply X_seqX (x := .seq (.region 4 _ false) _) | apply X_seqX (x := .seq (.seq (.region 4 _ false) _) _) | apply X_regRS (id := 6) | apply X_regR (id := 6) | apply X_seqX (x := .seq (.region 6 _ false) _) | apply X_seqX (x := .seq (.seq (.region 6 _ false) _) _)) | refine X_of _ ?_ | with_reducible (first | exact ⟨_, rfl⟩ | refine And.intro ?_ ?_ | intro _)) <;> try simp -implicitDefEqProofs (maxSteps := 1000000) (disch := first | exact dz1 | fail) only [vcR, vcT, Int.reduceBEq, Int.reduceBNe, Int.reduceEq, Int.reduceNe, Ab.part, Nat.reduceAdd, Nat.reduceMul, Nat.reduceLeDiff, Nat.reduceEqDiff, Nat.reduceBEq, Nat.reduceBNe, reduceCtorEq, ↓reduceIte, implies_true, forall_const, Int.reduceNeg, Int.reduceToNat, Int.reduceLT, Int.reduceLE, Int.reduceAdd, Int.reduceSub, Int.reduceMul, Int.reducePow, Nat.reducePow, true_or, Option.isNone_some, Option.isNone_none, vcXPb, Tryd.f13, List.toList_toArray, arr4_zero, nat4_set1, nat4_setL, nat4_set0, h1,h2]))
  · have hb' : big m = false := by simpa using hb
    have key : xInt m := by
      unfold xInt
      by_cases h8 : 8 < m
      · right
        have : ¬ m ≤ 40 := fun h => by rw [big_t h8 h] at hb'; cases hb'
        exact ⟨by omega, by omega⟩
      · left
        omega
    have hr' : (!anyB (if m < 9 then m else 9) fun i => big (l i).n) = r := by
      rw [← hr]
      unfold shS
      rw [hb']
      rfl
    have hm9 : m < 9 ∨ 40 < m := by
      rcases key with h1 | ⟨h1, h2⟩
      · exact .inl (by omega)
      · exact .inr (by omega)
    rcases key with h1 | ⟨h1, h2⟩
    case' inr => (repeat' ((first | with_reducible (first | apply XR_cons | apply XR_consG | apply XR_nil | apply cF_pure1 (by assumption) | apply cF_ev1 (by assumption)) | with_reducible (first | apply X_regRS (id := 1) | apply X_regR (id := 1) | apply X_seqX (x := .seq (.region 1 _ false) _) | apply X_seqX (x := .seq (.seq (.region 1 _ false) _) _) | apply X_regRS (id := 4) | apply X_regR (id := 4) | apply X_seqX (x := .seq (.region 4 _ false) _) | apply X_seqX (x := .seq (.seq (.region 4 _ false) _) _) | apply X_regRS (id := 6) | apply X_regR (id := 6) | apply X_seqX (x := .seq (.region 6 _ false) _) | apply X_seqX (x := .seq (.seq (.region 6 _ false) _) _)) | refine X_of _ ?_ | with_reducible (first | exact ⟨_, rfl⟩ | refine And.intro ?_ ?_ | intro _)) <;> try simp -implicitDefEqProofs (maxSteps := 1000000) (disch := first | exact dz1 | fail) only [vcR, vcT, Int.reduceBEq, Int.reduceBNe, Int.reduceEq, Int.reduceNe, Ab.part, Nat.reduceAdd, Nat.reduceMul, Nat.reduceLeDiff, Nat.reduceEqDiff, Nat.reduceBEq, Nat.reduceBNe, reduceCtorEq, ↓reduceIte, implies_true, forall_const, Int.reduceNeg, Int.reduceToNat, Int.reduceLT, Int.reduceLE, Int.reduceAdd, Int.reduceSub, Int.reduceMul, Int.reducePow, Nat.reducePow, true_or, Option.isNone_some, Option.isNone_none, vcXPb, Tryd.f13, List.toList_toArray, arr4_zero, nat4_set1, nat4_setL, nat4_set0, h1,h2]))
    case' inl => (repeat' ((first | with_reducible (first | apply XR_cons | apply XR_consG | apply XR_nil | apply cF_pure1 (by assumption) | apply cF_ev1 (by assumption)) | with_reducible (first | apply X_regRS (id := 1) | apply X_regR (id := 1) | apply X_seqX (x := .seq (.region 1 _ false) _) | apply X_seqX (x := .seq (.seq (.region 1 _ false) _) _) | apply X_regRS (id := 4) | apply X_regR (id := 4) | apply X_seqX (x := .seq (.region 4 _ false) _) | apply X_seqX (x := .seq (.seq (.region 4 _ false) _) _) | apply X_regRS (id := 6) | apply X_regR (id := 6) | apply X_seqX (x := .seq (.region 6 _ false) _) | apply X_seqX (x := .seq (.seq (.region 6 _ false) _) _)) | refine X_of _ ?_ | with_reducible (first | exact ⟨_, rfl⟩ | refine And.intro ?_ ?_ | intro _)) <;> try simp -implicitDefEqProofs (maxSteps := 1000000) (disch := first | exact dz1 | fail) only [vcR, vcT, Int.reduceBEq, Int.reduceBNe, Int.reduceEq, Int.reduceNe, Ab.part, Nat.reduceAdd, Nat.reduceMul, Nat.reduceLeDiff, Nat.reduceEqDiff, Nat.reduceBEq, Nat.reduceBNe, reduceCtorEq, ↓reduceIte, implies_true, forall_const, Int.reduceNeg, Int.reduceToNat, Int.reduceLT, Int.reduceLE, Int.reduceAdd, Int.reduceSub, Int.reduceMul, Int.reducePow, Nat.reducePow, true_or, Option.isNone_some, Option.isNone_none, vcXPb, Tryd.f13, List.toList_toArray, arr4_zero, nat4_set1, nat4_setL, nat4_set0, h1]))
    all_goals clear h1
    all_goals try clear h2
    all_goals
      refine X_loop (ι := Nat) (fun k => k ≤ m ∧ k ≤ 9 ∧ ∀ j, j < k → big (l j).n = false) (fun k => m - k) [3, 12, 13, 14, 15, 16, 17, 18, 19, 20, 21, 22, 23, 24, 25, 26, 27, 28, 29, 30, 31, 32, 33, 34, 35, 36, 37]
        (fun k => [(3, .s (.v (.int .i64 (k : Nat))))])
        (fun k => []) 0 (shape_of fun k => ?_) (by decide) ?_ ?_
      · simp only [List.length_cons, List.length_nil, List.map_cons, List.map_nil, List.nodup_cons, List.nodup_nil, List.mem_cons, Nat.reduceAdd, Nat.reduceEqDiff, or_false, not_false_eq_true, forall_eq_or_imp, forall_eq, or_self, Nat.reduceLT, Nat.reduceLeDiff, and_self, List.forall_mem_cons, List.not_mem_nil, false_implies, implies_true, and_true, true_and, vcOPb]
      · simp -implicitDefEqProofs (maxSteps := 1000000) (disch := first | exact dz1 | fail) only [vcR, vcT, Int.reduceBEq, Int.reduceBNe, Int.reduceEq, Int.reduceNe, Ab.part, Nat.reduceAdd, Nat.reduceMul, Nat.reduceLeDiff, Nat.reduceEqDiff, Nat.reduceBEq, Nat.reduceBNe, reduceCtorEq, ↓reduceIte, implies_true, forall_const, Int.reduceNeg, Int.reduceToNat, Int.reduceLT, Int.reduceLE, Int.reduceAdd, Int.reduceSub, Int.reduceMul, Int.reducePow, Nat.reducePow, true_or, Option.isNone_some, Option.isNone_none, vcXPb, Tryd.f13, List.toList_toArray, again_eq]
        exact ⟨_, rfl⟩
      · intro k us ⟨hk, hk9, hbs⟩
        by_cases h : k < m
        · by_cases h9 : k < 9
          · obtain ⟨ad, rfl⟩ := hadr (by omega)
            have g9 : (k : Int) < 9 := by omega
            have hx : ∀ {q : Nat} {K : TV → HE → Prop}, xext (ctx0 Tryd.prog w) (some false) q ((ad.add (k * 9)).add 8) K = K (.s (.v (.slice (l k).y (l k).n (l k).c))) .none := fun {q K} => hP0.prfS h
            have hbig : k < (if m < 9 then m else 9) := by split <;> omega
            by_cases f8 : 8 < (l k).n
            · have f8' : (8 : Int) < ((l k).n : Int) := by omega
              by_cases f40 : (l k).n ≤ 40
              · have f40' : ((l k).n : Int) ≤ 40 := by omega
                have : r = false := by rw [← hr', anyB_iff.2 ⟨k, hbig, show big (l k).n = true from big_t f8 f40⟩]; rfl
                subst this
                (repeat' ((first | with_reducible (first | apply XR_cons | apply XR_consG | apply XR_nil | apply cF_pure1 (by assumption) | apply cF_ev1 (by assumption)) | with_reducible (first | apply X_regRS (id := 1) | apply X_regR (id := 1) | apply X_seqX (x := .seq (.region 1 _ false) _) | apply X_seqX (x := .seq (.seq (.region 1 _ false) _) _) | apply X_regRS (id := 4) | apply X_regR (id := 4) | apply X_seqX (x := .seq (.region 4 _ false) _) | apply X_seqX (x := .seq (.seq (.region 4 _ false) _) _) | apply X_regRS (id := 6) | apply X_regR (id := 6) | apply X_seqX (x := .seq (.region 6 _ false) _) | apply X_seqX (x := .seq (.seq (.region 6 _ false) _) _) | apply X_seqX (x := .block _ (.seq (.seq (.region 1 _ false) _) _)) | apply X_blockX (b := (.seq (.seq (.region 1 _ false) _) _)) | apply X_seqX (x := .block _ (.seq (.region 1 _ false) _)) | apply X_blockX (b := (.seq (.region 1 _ false) _)) | apply X_seqX (x := .block _ (.seq (.seq (.region 4 _ false) _) _)) | apply X_blockX (b := (.seq (.seq (.region 4 _ false) _) _)) | apply X_seqX (x := .block _ (.seq (.region 4 _ false) _)) | apply X_blockX (b := (.seq (.region 4 _ false) _)) | apply X_seqX (x := .block _ (.seq (.seq (.region 6 _ false) _) _)) | apply X_blockX (b := (.seq (.seq (.region 6 _ false) _) _)) | apply X_seqX (x := .block _ (.seq (.region 6 _ false) _)) | apply X_blockX (b := (.seq (.region 6 _ false) _))) | refine X_of _ ?_ | with_reducible (first | exact ⟨_, rfl⟩ | refine And.intro ?_ ?_ | intro _)) <;> try simp -implicitDefEqProofs (maxSteps := 1000000) (disch := first | exact dz1 | fail) only [vcR, vcT, Int.reduceBEq, Int.reduceBNe, Int.reduceEq, Int.reduceNe, Ab.part, Nat.reduceAdd, Nat.reduceMul, Nat.reduceLeDiff, Nat.reduceEqDiff, Nat.reduceBEq, Nat.reduceBNe, reduceCtorEq, ↓reduceIte, implies_true, forall_const, Int.reduceNeg, Int.reduceToNat, Int.reduceLT, Int.reduceLE, Int.reduceAdd, Int.reduceSub, Int.reduceMul, Int.reducePow, Nat.reducePow, true_or, Option.isNone_some, Option.isNone_none, vcXPb, Tryd.f13, List.toList_toArray, arr4_zero, nat4_set1, nat4_setL, nat4_set0, hx,g9,f8',f40']))
              · have f40' : ¬ ((l k).n : Int) ≤ 40 := by omega
                have hb2 := big_f2 f40
                (repeat' ((first | with_reducible (first | apply XR_cons | apply XR_consG | apply XR_nil | apply cF_pure1 (by assumption) | apply cF_ev1 (by assumption)) | with_reducible (first | apply X_regRS (id := 1) | apply X_regR (id := 1) | apply X_seqX (x := .seq (.region 1 _ false) _) | apply X_seqX (x := .seq (.seq (.region 1 _ false) _) _) | apply X_regRS (id := 4) | apply X_regR (id := 4) | apply X_seqX (x := .seq (.region 4 _ false) _) | apply X_seqX (x := .seq (.seq (.region 4 _ false) _) _) | apply X_regRS (id := 6) | apply X_regR (id := 6) | apply X_seqX (x := .seq (.region 6 _ false) _) | apply X_seqX (x := .seq (.seq (.region 6 _ false) _) _) | apply X_seqX (x := .block _ (.seq (.seq (.region 1 _ false) _) _)) | apply X_blockX (b := (.seq (.seq (.region 1 _ false) _) _)) | apply X_seqX (x := .block _ (.seq (.region 1 _ false) _)) | apply X_blockX (b := (.seq (.region 1 _ false) _)) | apply X_seqX (x := .block _ (.seq (.seq (.region 4 _ false) _) _)) | apply X_blockX (b := (.seq (.seq (.region 4 _ false) _) _)) | apply X_seqX (x := .block _ (.seq (.region 4 _ false) _)) | apply X_blockX (b := (.seq (.region 4 _ false) _)) | apply X_seqX (x := .block _ (.seq (.seq (.region 6 _ false) _) _)) | apply X_blockX (b := (.seq (.seq (.region 6 _ false) _) _)) | apply X_seqX (x := .block _ (.seq (.region 6 _ false) _)) | apply X_blockX (b := (.seq (.region 6 _ false) _))) | refine X_of _ ?_ | with_reducible (first | exact ⟨_, rfl⟩ | refine And.intro ?_ ?_ | intro _)) <;> try simp -implicitDefEqProofs (maxSteps := 1000000) (disch := first | exact dz1 | fail) only [vcR, vcT, Int.reduceBEq, Int.reduceBNe, Int.reduceEq, Int.reduceNe, Ab.part, Nat.reduceAdd, Nat.reduceMul, Nat.reduceLeDiff, Nat.reduceEqDiff, Nat.reduceBEq, Nat.reduceBNe, reduceCtorEq, ↓reduceIte, implies_true, forall_const, Int.reduceNeg, Int.reduceToNat, Int.reduceLT, Int.reduceLE, Int.reduceAdd, Int.reduceSub, Int.reduceMul, Int.reducePow, Nat.reducePow, true_or, Option.isNone_some, Option.isNone_none, vcXPb, Tryd.f13, List.toList_toArray, arr4_zero, nat4_set1, nat4_setL, nat4_set0, hx,g9,f8',f40']))
                refine ⟨k + 1, by omega, ?_⟩
                simp -implicitDefEqProofs (maxSteps := 1000000) (disch := first | exact dz1 | fail) only [vcR, vcT, Int.reduceBEq, Int.reduceBNe, Int.reduceEq, Int.reduceNe, Ab.part, Nat.reduceAdd, Nat.reduceMul, Nat.reduceLeDiff, Nat.reduceEqDiff, Nat.reduceBEq, Nat.reduceBNe, reduceCtorEq, ↓reduceIte, implies_true, forall_const, Int.reduceNeg, Int.reduceToNat, Int.reduceLT, Int.reduceLE, Int.reduceAdd, Int.reduceSub, Int.reduceMul, Int.reducePow, Nat.reducePow, true_or, Option.isNone_some, Option.isNone_none, vcXPb, Tryd.f13, List.toList_toArray, again_eq]
                refine ⟨fun j hj => ?_, _, rfl⟩
                by_cases hjk : j = k
                · subst hjk; exact hb2
                · exact hbs j (by omega)
            · have f8' : ¬ (8 : Int) < ((l k).n : Int) := by omega
              have hb2 := big_f1 f8
              (repeat' ((first | with_reducible (first | apply XR_cons | apply XR_consG | apply XR_nil | apply cF_pure1 (by assumption) | apply cF_ev1 (by assumption)) | with_reducible (first | apply X_regRS (id := 1) | apply X_regR (id := 1) | apply X_seqX (x := .seq (.region 1 _ false) _) | apply X_seqX (x := .seq (.seq (.region 1 _ false) _) _) | apply X_regRS (id := 4) | apply X_regR (id := 4) | apply X_seqX (x := .seq (.region 4 _ false) _) | apply X_seqX (x := .seq (.seq (.region 4 _ false) _) _) | apply X_regRS (id := 6) | apply X_regR (id := 6) | apply X_seqX (x := .seq (.region 6 _ false) _) | apply X_seqX (x := .seq (.seq (.region 6 _ false) _) _) | apply X_seqX (x := .block _ (.seq (.seq (.region 1 _ false) _) _)) | apply X_blockX (b := (.seq (.seq (.region 1 _ false) _) _)) | apply X_seqX (x := .block _ (.seq (.region 1 _ false) _)) | apply X_blockX (b := (.seq (.region 1 _ false) _)) | apply X_seqX (x := .block _ (.seq (.seq (.region 4 _ false) _) _)) | apply X_blockX (b := (.seq (.seq (.region 4 _ false) _) _)) | apply X_seqX (x := .block _ (.seq (.region 4 _ false) _)) | apply X_blockX (b := (.seq (.region 4 _ false) _)) | apply X_seqX (x := .block _ (.seq (.seq (.region 6 _ false) _) _)) | apply X_blockX (b := (.seq (.seq (.region 6 _ false) _) _)) | apply X_seqX (x := .block _ (.seq (.region 6 _ false) _)) | apply X_blockX (b := (.seq (.region 6 _ false) _))) | refine X_of _ ?_ | with_reducible (first | exact ⟨_, rfl⟩ | refine And.intro ?_ ?_ | intro _)) <;> try simp -implicitDefEqProofs (maxSteps := 1000000) (disch := first | exact dz1 | fail) only [vcR, vcT, Int.reduceBEq, Int.reduceBNe, Int.reduceEq, Int.reduceNe, Ab.part, Nat.reduceAdd, Nat.reduceMul, Nat.reduceLeDiff, Nat.reduceEqDiff, Nat.reduceBEq, Nat.reduceBNe, reduceCtorEq, ↓reduceIte, implies_true, forall_const, Int.reduceNeg, Int.reduceToNat, Int.reduceLT, Int.reduceLE, Int.reduceAdd, Int.reduceSub, Int.reduceMul, Int.reducePow, Nat.reducePow, true_or, Option.isNone_some, Option.isNone_none, vcXPb, Tryd.f13, List.toList_toArray, arr4_zero, nat4_set1, nat4_setL, nat4_set0, hx,g9,f8']))
              refine ⟨k + 1, by omega, ?_⟩
              simp -implicitDefEqProofs (maxSteps := 1000000) (disch := first | exact dz1 | fail) only [vcR, vcT, Int.reduceBEq, Int.reduceBNe, Int.reduceEq, Int.reduceNe, Ab.part, Nat.reduceAdd, Nat.reduceMul, Nat.reduceLeDiff, Nat.reduceEqDiff, Nat.reduceBEq, Nat.reduceBNe, reduceCtorEq, ↓reduceIte, implies_true, forall_const, Int.reduceNeg, Int.reduceToNat, Int.reduceLT, Int.reduceLE, Int.reduceAdd, Int.reduceSub, Int.reduceMul, Int.reducePow, Nat.reducePow, true_or, Option.isNone_some, Option.isNone_none, vcXPb, Tryd.f13, List.toList_toArray, again_eq]
              refine ⟨fun j hj => ?_, _, rfl⟩
              by_cases hjk : j = k
              · subst hjk; exact hb2
              · exact hbs j (by omega)
          · have g9 : ¬ (k : Int) < 9 := by omega
            have : r = true := by
              rw [← hr', anyB_false.2 fun i hi => hbs i (by split at hi <;> omega)]
              rfl
            subst this
            rcases hm9 with hm9 | hm9
            · exfalso; omega
            · (repeat' ((first | with_reducible (first | apply XR_cons | apply XR_consG | apply XR_nil | apply cF_pure1 (by assumption) | apply cF_ev1 (by assumption)) | with_reducible (first | apply X_regRS (id := 1) | apply X_regR (id := 1) | apply X_seqX (x := .seq (.region 1 _ false) _) | apply X_seqX (x := .seq (.seq (.region 1 _ false) _) _) | apply X_regRS (id := 4) | apply X_regR (id := 4) | apply X_seqX (x := .seq (.region 4 _ false) _) | apply X_seqX (x := .seq (.seq (.region 4 _ false) _) _) | apply X_regRS (id := 6) | apply X_regR (id := 6) | apply X_seqX (x := .seq (.region 6 _ false) _) | apply X_seqX (x := .seq (.seq (.region 6 _ false) _) _)) | refine X_of _ ?_ | with_reducible (first | exact ⟨_, rfl⟩ | refine And.intro ?_ ?_ | intro _)) <;> try simp -implicitDefEqProofs (maxSteps := 1000000) (disch := first | exact dz1 | fail) only [vcR, vcT, Int.reduceBEq, Int.reduceBNe, Int.reduceEq, Int.reduceNe, Ab.part, Nat.reduceAdd, Nat.reduceMul, Nat.reduceLeDiff, Nat.reduceEqDiff, Nat.reduceBEq, Nat.reduceBNe, reduceCtorEq, ↓reduceIte, implies_true, forall_const, Int.reduceNeg, Int.reduceToNat, Int.reduceLT, Int.reduceLE, Int.reduceAdd, Int.reduceSub, Int.reduceMul, Int.reducePow, Nat.reducePow, true_or, Option.isNone_some, Option.isNone_none, vcXPb, Tryd.f13, List.toList_toArray, arr4_zero, nat4_set1, nat4_setL, nat4_set0, g9]))
        · have : k = m := by omega
          subst this
          have : r = true := by
            rw [← hr', anyB_false.2 fun i hi => hbs i (by split at hi <;> omega)]
            rfl
          subst this
          rcases hm9 with hm9 | hm9
          · (repeat' ((first | with_reducible (first | apply XR_cons | apply XR_consG | apply XR_nil | apply cF_pure1 (by assumption) | apply cF_ev1 (by assumption)) | with_reducible (first | apply X_regRS (id := 1) | apply X_regR (id := 1) | apply X_seqX (x := .seq (.region 1 _ false) _) | apply X_seqX (x := .seq (.seq (.region 1 _ false) _) _) | apply X_regRS (id := 4) | apply X_regR (id := 4) | apply X_seqX (x := .seq (.region 4 _ false) _) | apply X_seqX (x := .seq (.seq (.region 4 _ false) _) _) | apply X_regRS (id := 6) | apply X_regR (id := 6) | apply X_seqX (x := .seq (.region 6 _ false) _) | apply X_seqX (x := .seq (.seq (.region 6 _ false) _) _)) | refine X_of _ ?_ | with_reducible (first | exact ⟨_, rfl⟩ | refine And.intro ?_ ?_ | intro _)) <;> try simp -implicitDefEqProofs (maxSteps := 1000000) (disch := first | exact dz1 | fail) only [vcR, vcT, Int.reduceBEq, Int.reduceBNe, Int.reduceEq, Int.reduceNe, Ab.part, Nat.reduceAdd, Nat.reduceMul, Nat.reduceLeDiff, Nat.reduceEqDiff, Nat.reduceBEq, Nat.reduceBNe, reduceCtorEq, ↓reduceIte, implies_true, forall_const, Int.reduceNeg, Int.reduceToNat, Int.reduceLT, Int.reduceLE, Int.reduceAdd, Int.reduceSub, Int.reduceMul, Int.reducePow, Nat.reducePow, true_or, Option.isNone_some, Option.isNone_none, vcXPb, Tryd.f13, List.toList_toArray, arr4_zero, nat4_set1, nat4_setL, nat4_set0]))
          · exfalso; omega
end Go.Proofs.YthniflakjkbpiaaDoor
