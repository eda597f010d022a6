/-
  What sortitionref05's functions say: whether parameters are a group's; members; products of powers.
-/
import Derived.WalkKit
import Derived.StillTail
import Derived.Deep.MidRow
import Derived.DeepKeys
import Derived.Deep.LoopGhost
import Derived.Deep.Quiet
import Derived.Laws.AppendOwn
import Derived.Laws.MakeOwn
import Derived.Laws.Cover3
import Derived.Laws.IdiomCopy
import Derived.Laws.CopyRow
import Derived.Laws.BitsAllLaws
import Derived.Laws.Bits128
import Derived.Lib.BitFns
import Derived.DeepKeys3
import Derived.MapKept
import Derived.Test.YtdmcknmjdlghgaaDoorProg
import Derived.Shelf.Bits.Mul64
import Derived.Shelf.Strconv.Itoa0
import Derived.Shelf.Spec.BitsCarry
import Derived.Tactics
import Derived.Tactics2
import Derived.Defers
import Derived.Laws.Pointers
import Derived.Laws.LoneSync
import Derived.RegionTactic
import Derived.RegionCalls
import Derived.ChangeAlike
import Derived.KernelRfl
import Derived.Laws.NewBlocks
import Derived.Test.YtdmcknmjdlghgaaDoorZ01
import Derived.Test.YtdmcknmjdlghgaaDoorZ02
import Derived.Test.YtdmcknmjdlghgaaDoorZ03
import Derived.Test.YtdmcknmjdlghgaaDoorZ04
import Derived.Test.YtdmcknmjdlghgaaDoorZ07
import Derived.Test.YtdmcknmjdlghgaaDoorZ09
import Derived.Test.YtdmcknmjdlghgaaDoorZ11
import Derived.Test.YtdmcknmjdlghgaaDoorZ13
import Derived.Test.YtdmcknmjdlghgaaDoorZ15
namespace Go.Proofs.YtdmcknmjdlghgaaDoor
open Go Go.Ab
set_option linter.unusedSimpArgs false
set_option linter.unusedVariables false
set_option linter.defProp false
set_option maxHeartbeats 20000000
set_option maxRecDepth 100000


theorem rgMember_c (P Q G a : Nat) (hP : OddM P) (hQ2 : Q < 2 ^ 256) (ha : a < 2 ^ 256) : PureC Tryd.prog 28 [.agg (prms P Q G), .agg (nat4 a)] (.s (.v (.bool (memB P Q a)))) := by
  have hP2 := hP.lt
  refine pureC_of Tryd.func28 rfl (by simp only [List.length_cons, List.length_nil, List.map_cons, List.map_nil, List.nodup_cons, List.nodup_nil, List.mem_cons, Nat.reduceAdd, Nat.reduceEqDiff, or_false, not_false_eq_true, forall_eq_or_imp, forall_eq, or_self, Nat.reduceLT, Nat.reduceLeDiff, and_self, List.forall_mem_cons, List.not_mem_nil, false_implies, implies_true, and_true, true_and, vcOGb]) (by simp only [List.length_cons, List.length_nil, List.map_cons, List.map_nil, List.nodup_cons, List.nodup_nil, List.mem_cons, Nat.reduceAdd, Nat.reduceEqDiff, or_false, not_false_eq_true, forall_eq_or_imp, forall_eq, or_self, Nat.reduceLT, Nat.reduceLeDiff, and_self, List.forall_mem_cons, List.not_mem_nil, false_implies, implies_true, and_true, true_and, vcOGb]) fun w => ?_
  simp only [List.length_cons, List.length_nil, Tryd.ntmps28, Nat.reduceAdd, Nat.reduceSub, List.replicate_succ, List.replicate_zero, List.cons_append, List.nil_append]
  have hpw := rmpow_c P a Q hP ha hQ2
  unfold memB
  obtain ⟨r, hr⟩ : ∃ r, a ^ Q % P = r := ⟨_, rfl⟩
  have hr2 : r < 2 ^ 256 := by rw [← hr]; exact hP.mod_lt
  rw [hr] at hpw ⊢
  clear hr
  by_cases ha0 : a = 0
  · subst ha0
    (repeat' ((first | with_reducible (first | apply XR_cons | apply XR_consG | apply XR_nil | apply cF_pure2 (by assumption) | apply cF_ev2 (by assumption) | apply cF_pure2 (rcmp_c _ _ bd2 bd2)) | with_reducible (first | apply X_regRS (id := 1) | apply X_regR (id := 1) | apply X_seqX (x := .seq (.region 1 _ false) _) | apply X_seqX (x := .seq (.seq (.region 1 _ false) _) _) | apply X_regRS (id := 3) | apply X_regR (id := 3) | apply X_seqX (x := .seq (.region 3 _ false) _) | apply X_seqX (x := .seq (.seq (.region 3 _ false) _) _)) | refine X_of _ ?_ | with_reducible (first | exact ⟨_, rfl⟩ | refine And.intro ?_ ?_ | intro _)) <;> try simp -implicitDefEqProofs (maxSteps := 1000000) (disch := first | exact dz2 | fail) only [vcR, vcT, Int.reduceBEq, Int.reduceBNe, Int.reduceEq, Int.reduceNe, Ab.part, Nat.reduceAdd, Nat.reduceMul, Nat.reduceLeDiff, Nat.reduceEqDiff, Nat.reduceBEq, Nat.reduceBNe, reduceCtorEq, ↓reduceIte, implies_true, forall_const, Int.reduceNeg, Int.reduceToNat, Int.reduceLT, Int.reduceLE, Int.reduceAdd, Int.reduceSub, Int.reduceMul, Int.reducePow, Nat.reducePow, true_or, Option.isNone_some, Option.isNone_none, vcXGb, Tryd.f28, List.toList_toArray, arr4_zero, nat4_set1, nat4_setL, nat4_set0, prms_splice]))
    all_goals rfl
  · have hd0 : decide (a = 0) = false := decide_eq_false ha0
    have hd1 : decide (a ≠ 0) = true := decide_eq_true ha0
    by_cases haP : a < P
    · have hs : ¬ sg a P ≥ 0 := by have := sg_lt0 haP; omega
      have hdP : decide (a < P) = true := decide_eq_true haP
      rw [hd1, hdP]
      clear hd1 hdP ha0 haP
      (repeat' ((first | with_reducible (first | apply XR_cons | apply XR_consG | apply XR_nil | apply cF_pure2 (by assumption) | apply cF_ev2 (by assumption) | apply cF_pure2 (rcmp_c _ _ bd2 bd2)) | with_reducible (first | apply X_regRS (id := 1) | apply X_regR (id := 1) | apply X_seqX (x := .seq (.region 1 _ false) _) | apply X_seqX (x := .seq (.seq (.region 1 _ false) _) _) | apply X_regRS (id := 3) | apply X_regR (id := 3) | apply X_seqX (x := .seq (.region 3 _ false) _) | apply X_seqX (x := .seq (.seq (.region 3 _ false) _) _)) | refine X_of _ ?_ | with_reducible (first | exact ⟨_, rfl⟩ | refine And.intro ?_ ?_ | intro _)) <;> try simp -implicitDefEqProofs (maxSteps := 1000000) (disch := first | exact dz2 | fail) only [vcR, vcT, Int.reduceBEq, Int.reduceBNe, Int.reduceEq, Int.reduceNe, Ab.part, Nat.reduceAdd, Nat.reduceMul, Nat.reduceLeDiff, Nat.reduceEqDiff, Nat.reduceBEq, Nat.reduceBNe, reduceCtorEq, ↓reduceIte, implies_true, forall_const, Int.reduceNeg, Int.reduceToNat, Int.reduceLT, Int.reduceLE, Int.reduceAdd, Int.reduceSub, Int.reduceMul, Int.reducePow, Nat.reducePow, true_or, Option.isNone_some, Option.isNone_none, vcXGb, Tryd.f28, List.toList_toArray, arr4_zero, nat4_set1, nat4_setL, nat4_set0, prms_splice,hd0,hs]))
      all_goals simp
    · have hs : sg a P ≥ 0 := sg_nonneg (Nat.le_of_not_lt haP)
      have hdP : decide (a < P) = false := decide_eq_false haP
      rw [hd1, hdP]
      clear hd1 hdP ha0 haP
      (repeat' ((first | with_reducible (first | apply XR_cons | apply XR_consG | apply XR_nil | apply cF_pure2 (by assumption) | apply cF_ev2 (by assumption) | apply cF_pure2 (rcmp_c _ _ bd2 bd2)) | with_reducible (first | apply X_regRS (id := 1) | apply X_regR (id := 1) | apply X_seqX (x := .seq (.region 1 _ false) _) | apply X_seqX (x := .seq (.seq (.region 1 _ false) _) _) | apply X_regRS (id := 3) | apply X_regR (id := 3) | apply X_seqX (x := .seq (.region 3 _ false) _) | apply X_seqX (x := .seq (.seq (.region 3 _ false) _) _)) | refine X_of _ ?_ | with_reducible (first | exact ⟨_, rfl⟩ | refine And.intro ?_ ?_ | intro _)) <;> try simp -implicitDefEqProofs (maxSteps := 1000000) (disch := first | exact dz2 | fail) only [vcR, vcT, Int.reduceBEq, Int.reduceBNe, Int.reduceEq, Int.reduceNe, Ab.part, Nat.reduceAdd, Nat.reduceMul, Nat.reduceLeDiff, Nat.reduceEqDiff, Nat.reduceBEq, Nat.reduceBNe, reduceCtorEq, ↓reduceIte, implies_true, forall_const, Int.reduceNeg, Int.reduceToNat, Int.reduceLT, Int.reduceLE, Int.reduceAdd, Int.reduceSub, Int.reduceMul, Int.reducePow, Nat.reducePow, true_or, Option.isNone_some, Option.isNone_none, vcXGb, Tryd.f28, List.toList_toArray, arr4_zero, nat4_set1, nat4_setL, nat4_set0, prms_splice,hd0,hs]))
      all_goals simp


theorem rgMulti_e (x y : Option Addr) (n m c d : Nat) (a b : Nat → Nat) (P Q G : Nat) (hP : OddM P) (hQ2 : Q < 2 ^ 256) (ha : ∀ i, a i < 2 ^ 256) (hb : ∀ i, b i < 2 ^ 256) (hn : n < 9223372036854775808) (hm : m < 9223372036854775808) :
    EvC (modEvo 108) Tryd.prog 25 [.agg (prms P Q G), .s (.v (.slice x n c)), .s (.v (.slice y m d))]
      (fun B w => natsAt (modEvo 108) x n a B w ∧ natsAt (modEvo 108) y m b B w) (.tup [.agg (nat4 (muV P Q n m a b)), .s (.v (.int .i64 (muE P Q n m a)))]) := by
  have hP2 := hP.lt
  have hP0 := hP.pos
  (refine evC_of Tryd.func25 rfl (by simp only [List.length_cons, List.length_nil, List.map_cons, List.map_nil, List.nodup_cons, List.nodup_nil, List.mem_cons, Nat.reduceAdd, Nat.reduceEqDiff, or_false, not_false_eq_true, forall_eq_or_imp, forall_eq, or_self, Nat.reduceLT, Nat.reduceLeDiff, and_self, List.forall_mem_cons, List.not_mem_nil, false_implies, implies_true, and_true, true_and, vcOGb]) (by simp only [List.length_cons, List.length_nil, List.map_cons, List.map_nil, List.nodup_cons, List.nodup_nil, List.mem_cons, Nat.reduceAdd, Nat.reduceEqDiff, or_false, not_false_eq_true, forall_eq_or_imp, forall_eq, or_self, Nat.reduceLT, Nat.reduceLeDiff, and_self, List.forall_mem_cons, List.not_mem_nil, false_implies, implies_true, and_true, true_and, vcOGb]) fun B w hpre => ?_; simp only [List.length_cons, List.length_nil, Tryd.ntmps25, Nat.reduceAdd, Nat.reduceSub, List.replicate_succ, List.replicate_zero, List.cons_append, List.nil_append])
  have hN0 := hpre
  have h0 := Kn.entry (P := Tryd.prog) ((natsAt_stays _ x n a).and (natsAt_stays _ y m b)) hpre
  have hNx := h0.left
  have hNy := h0.right
  clear hpre h0
  unfold muV
  obtain ⟨e, he⟩ : ∃ e, muE P Q n m a = e := ⟨_, rfl⟩
  rw [he]
  by_cases hnm : n ≠ m ∨ 40 < n
  · rw [muE_arg hnm] at he
    subst he
    by_cases hnm2 : n = m
    · subst hnm2
      have h40 : 40 < n := by omega
      (repeat' ((first | with_reducible (first | apply XQ_cons | apply XQ_consG | apply XQ_nil | apply XR_cons | apply XR_consG | apply XR_nil | apply cF_pure2 (by assumption) | apply cV_pure2 (by assumption) | apply cF_ev2 (by assumption) | apply cV_ev2 (by assumption) | apply cF_pure2 (rmpow_c _ _ _ bd2 bd2 bd2) | apply cV_pure2 (rmpow_c _ _ _ bd2 bd2 bd2) | apply cF_pure2 (rmtimes_c _ _ _ bd2 bd2 bd2 bd2) | apply cV_pure2 (rmtimes_c _ _ _ bd2 bd2 bd2 bd2)) | with_reducible (first | apply X_regRS (id := 1) | apply X_regR (id := 1) | apply X_seqX (x := .seq (.region 1 _ false) _) | apply X_seqX (x := .seq (.seq (.region 1 _ false) _) _)) | (with_reducible apply X_drawC (id := 6) 7; (next => (kernel_rfl)); (next => (kernel_rfl))) | (with_reducible apply X_drawC (id := 13) 15; (next => (kernel_rfl)); (next => (kernel_rfl))) | refine X_of _ ?_ | with_reducible (first | exact ⟨_, rfl⟩ | refine And.intro ?_ ?_ | intro _)) <;> try simp -implicitDefEqProofs (maxSteps := 1000000) (disch := first | exact dz2 | fail) only [vcR, vcT, Int.reduceBEq, Int.reduceBNe, Int.reduceEq, Int.reduceNe, Ab.part, Nat.reduceAdd, Nat.reduceMul, Nat.reduceLeDiff, Nat.reduceEqDiff, Nat.reduceBEq, Nat.reduceBNe, reduceCtorEq, ↓reduceIte, implies_true, forall_const, Int.reduceNeg, Int.reduceToNat, Int.reduceLT, Int.reduceLE, Int.reduceAdd, Int.reduceSub, Int.reduceMul, Int.reducePow, Nat.reducePow, true_or, Option.isNone_some, Option.isNone_none, vcXGb, Tryd.f25, List.toList_toArray, arr4_zero, nat4_set1, nat4_setL, nat4_set0, bne_self_eq_false]))
    · have hbn : (n != m) = true := bne_iff_ne.2 hnm2
      (repeat' ((first | with_reducible (first | apply XQ_cons | apply XQ_consG | apply XQ_nil | apply XR_cons | apply XR_consG | apply XR_nil | apply cF_pure2 (by assumption) | apply cV_pure2 (by assumption) | apply cF_ev2 (by assumption) | apply cV_ev2 (by assumption) | apply cF_pure2 (rmpow_c _ _ _ bd2 bd2 bd2) | apply cV_pure2 (rmpow_c _ _ _ bd2 bd2 bd2) | apply cF_pure2 (rmtimes_c _ _ _ bd2 bd2 bd2 bd2) | apply cV_pure2 (rmtimes_c _ _ _ bd2 bd2 bd2 bd2)) | with_reducible (first | apply X_regRS (id := 1) | apply X_regR (id := 1) | apply X_seqX (x := .seq (.region 1 _ false) _) | apply X_seqX (x := .seq (.seq (.region 1 _ false) _) _)) | (with_reducible apply X_drawC (id := 6) 7; (next => (kernel_rfl)); (next => (kernel_rfl))) | (with_reducible apply X_drawC (id := 13) 15; (next => (kernel_rfl)); (next => (kernel_rfl))) | refine X_of _ ?_ | with_reducible (first | exact ⟨_, rfl⟩ | refine And.intro ?_ ?_ | intro _)) <;> try simp -implicitDefEqProofs (maxSteps := 1000000) (disch := first | exact dz2 | fail) only [vcR, vcT, Int.reduceBEq, Int.reduceBNe, Int.reduceEq, Int.reduceNe, Ab.part, Nat.reduceAdd, Nat.reduceMul, Nat.reduceLeDiff, Nat.reduceEqDiff, Nat.reduceBEq, Nat.reduceBNe, reduceCtorEq, ↓reduceIte, implies_true, forall_const, Int.reduceNeg, Int.reduceToNat, Int.reduceLT, Int.reduceLE, Int.reduceAdd, Int.reduceSub, Int.reduceMul, Int.reducePow, Nat.reducePow, true_or, Option.isNone_some, Option.isNone_none, vcXGb, Tryd.f25, List.toList_toArray, arr4_zero, nat4_set1, nat4_setL, nat4_set0, hbn]))
  · rw [muE_ok hnm] at he
    have hnm2 : n = m := by omega
    subst hnm2
    have h40 : n ≤ 40 := by omega
    clear hnm
    have hadx : 0 < n → ∃ ad, x = some ad := fun h => by
      rcases hN0.1 with h0 | ⟨ad, h0, _⟩
      · omega
      · exact ⟨ad, h0⟩
    have hady : 0 < n → ∃ ad, y = some ad := fun h => by
      rcases hN0.2 with h0 | ⟨ad, h0, _⟩
      · omega
      · exact ⟨ad, h0⟩
    clear hN0
    (repeat' ((first | with_reducible (first | apply XQ_cons | apply XQ_consG | apply XQ_nil | apply XR_cons | apply XR_consG | apply XR_nil | apply cF_pure2 (by assumption) | apply cV_pure2 (by assumption) | apply cF_ev2 (by assumption) | apply cV_ev2 (by assumption) | apply cF_pure2 (rmpow_c _ _ _ bd2 bd2 bd2) | apply cV_pure2 (rmpow_c _ _ _ bd2 bd2 bd2) | apply cF_pure2 (rmtimes_c _ _ _ bd2 bd2 bd2 bd2) | apply cV_pure2 (rmtimes_c _ _ _ bd2 bd2 bd2 bd2)) | with_reducible (first | apply X_regRS (id := 1) | apply X_regR (id := 1) | apply X_seqX (x := .seq (.region 1 _ false) _) | apply X_seqX (x := .seq (.seq (.region 1 _ false) _) _)) | (with_reducible apply X_drawC (id := 6) 7; (next => (kernel_rfl)); (next => (kernel_rfl))) | (with_reducible apply X_drawC (id := 13) 15; (next => (kernel_rfl)); (next => (kernel_rfl))) | refine X_of _ ?_ | with_reducible (first | exact ⟨_, rfl⟩ | refine And.intro ?_ ?_ | intro _)) <;> try simp -implicitDefEqProofs (maxSteps := 1000000) (disch := first | exact dz2 | fail) only [vcR, vcT, Int.reduceBEq, Int.reduceBNe, Int.reduceEq, Int.reduceNe, Ab.part, Nat.reduceAdd, Nat.reduceMul, Nat.reduceLeDiff, Nat.reduceEqDiff, Nat.reduceBEq, Nat.reduceBNe, reduceCtorEq, ↓reduceIte, implies_true, forall_const, Int.reduceNeg, Int.reduceToNat, Int.reduceLT, Int.reduceLE, Int.reduceAdd, Int.reduceSub, Int.reduceMul, Int.reducePow, Nat.reducePow, true_or, Option.isNone_some, Option.isNone_none, vcXGb, Tryd.f25, List.toList_toArray, arr4_zero, nat4_set1, nat4_setL, nat4_set0, bne_self_eq_false]))
    refine X_loop (ι := Nat) (fun i => i ≤ n ∧ ∀ q, q < i → memB P Q (a q) = true) (fun i => n - i) [8, 9, 23, 24, 25, 26, 27, 28, 29, 30, 31, 32, 33, 34, 35, 36, 37, 38]
      (fun i => [(8, .s (.v (.int .i64 (i : Nat))))])
      (fun i => []) 0 (shape_of fun i => ?_) (by decide) ?_ ?_
    · simp only [List.length_cons, List.length_nil, List.map_cons, List.map_nil, List.nodup_cons, List.nodup_nil, List.mem_cons, Nat.reduceAdd, Nat.reduceEqDiff, or_false, not_false_eq_true, forall_eq_or_imp, forall_eq, or_self, Nat.reduceLT, Nat.reduceLeDiff, and_self, List.forall_mem_cons, List.not_mem_nil, false_implies, implies_true, and_true, true_and, vcOGb]
    · simp -implicitDefEqProofs (maxSteps := 1000000) (disch := first | exact dz2 | fail) only [vcR, vcT, Int.reduceBEq, Int.reduceBNe, Int.reduceEq, Int.reduceNe, Ab.part, Nat.reduceAdd, Nat.reduceMul, Nat.reduceLeDiff, Nat.reduceEqDiff, Nat.reduceBEq, Nat.reduceBNe, reduceCtorEq, ↓reduceIte, implies_true, forall_const, Int.reduceNeg, Int.reduceToNat, Int.reduceLT, Int.reduceLE, Int.reduceAdd, Int.reduceSub, Int.reduceMul, Int.reducePow, Nat.reducePow, true_or, Option.isNone_some, Option.isNone_none, vcXGb, Tryd.f25, List.toList_toArray, again_eq]
      first | exact ⟨⟨Nat.zero_le _, fun q hq => absurd hq (Nat.not_lt_zero q)⟩, _, rfl⟩ | (simp; done)
    · intro i us ⟨hi, hmb⟩
      by_cases h : i < n
      · obtain ⟨ad, rfl⟩ := hadx (by omega)
        have hx : ∀ {K : TV → HE → Prop}, xext (ctxE Tryd.prog (modEvo 108) w B) (some true) 4 (ad.add (i * 4)) K = K (.agg (nat4 (a i))) .none := fun {K} => hNx.nat h
        have hme := rgMember_c P Q G (a i) hP hQ2 (ha i)
        cases hmi : memB P Q (a i) with
        | true =>
          rw [hmi] at hme
          clear ha hb hadx hady
          (repeat' ((first | with_reducible (first | apply XQ_cons | apply XQ_consG | apply XQ_nil | apply XR_cons | apply XR_consG | apply XR_nil | apply cF_pure2 (by assumption) | apply cV_pure2 (by assumption) | apply cF_ev2 (by assumption) | apply cV_ev2 (by assumption) | apply cF_pure2 (rmpow_c _ _ _ bd2 bd2 bd2) | apply cV_pure2 (rmpow_c _ _ _ bd2 bd2 bd2) | apply cF_pure2 (rmtimes_c _ _ _ bd2 bd2 bd2 bd2) | apply cV_pure2 (rmtimes_c _ _ _ bd2 bd2 bd2 bd2)) | with_reducible (first | apply X_regRS (id := 1) | apply X_regR (id := 1) | apply X_seqX (x := .seq (.region 1 _ false) _) | apply X_seqX (x := .seq (.seq (.region 1 _ false) _) _)) | (with_reducible apply X_drawC (id := 6) 7; (next => (kernel_rfl)); (next => (kernel_rfl))) | (with_reducible apply X_drawC (id := 13) 15; (next => (kernel_rfl)); (next => (kernel_rfl))) | refine X_of _ ?_ | with_reducible (first | exact ⟨_, rfl⟩ | refine And.intro ?_ ?_ | intro _)) <;> try simp -implicitDefEqProofs (maxSteps := 1000000) (disch := first | exact dz2 | fail) only [vcR, vcT, Int.reduceBEq, Int.reduceBNe, Int.reduceEq, Int.reduceNe, Ab.part, Nat.reduceAdd, Nat.reduceMul, Nat.reduceLeDiff, Nat.reduceEqDiff, Nat.reduceBEq, Nat.reduceBNe, reduceCtorEq, ↓reduceIte, implies_true, forall_const, Int.reduceNeg, Int.reduceToNat, Int.reduceLT, Int.reduceLE, Int.reduceAdd, Int.reduceSub, Int.reduceMul, Int.reducePow, Nat.reducePow, true_or, Option.isNone_some, Option.isNone_none, vcXGb, Tryd.f25, List.toList_toArray, arr4_zero, nat4_set1, nat4_setL, nat4_set0, hx]))
          refine ⟨i + 1, by omega, ?_⟩
          simp -implicitDefEqProofs (maxSteps := 1000000) (disch := first | exact dz2 | fail) only [vcR, vcT, Int.reduceBEq, Int.reduceBNe, Int.reduceEq, Int.reduceNe, Ab.part, Nat.reduceAdd, Nat.reduceMul, Nat.reduceLeDiff, Nat.reduceEqDiff, Nat.reduceBEq, Nat.reduceBNe, reduceCtorEq, ↓reduceIte, implies_true, forall_const, Int.reduceNeg, Int.reduceToNat, Int.reduceLT, Int.reduceLE, Int.reduceAdd, Int.reduceSub, Int.reduceMul, Int.reducePow, Nat.reducePow, true_or, Option.isNone_some, Option.isNone_none, vcXGb, Tryd.f25, List.toList_toArray, again_eq]
          refine ⟨fun q hq => ?_, _, rfl⟩
          by_cases hq2 : q < i
          · exact hmb q hq2
          · have : q = i := by omega
            subst this
            exact hmi
        | false =>
          rw [hmi] at hme
          have hall : allM P Q n a = false := by
            cases h5 : allM P Q n a with
            | false => rfl
            | true => rw [allM_iff.1 h5 i h] at hmi; cases hmi
          rw [hall] at he
          subst he
          clear ha hb hadx hady
          (repeat' ((first | with_reducible (first | apply XQ_cons | apply XQ_consG | apply XQ_nil | apply XR_cons | apply XR_consG | apply XR_nil | apply cF_pure2 (by assumption) | apply cV_pure2 (by assumption) | apply cF_ev2 (by assumption) | apply cV_ev2 (by assumption) | apply cF_pure2 (rmpow_c _ _ _ bd2 bd2 bd2) | apply cV_pure2 (rmpow_c _ _ _ bd2 bd2 bd2) | apply cF_pure2 (rmtimes_c _ _ _ bd2 bd2 bd2 bd2) | apply cV_pure2 (rmtimes_c _ _ _ bd2 bd2 bd2 bd2)) | with_reducible (first | apply X_regRS (id := 1) | apply X_regR (id := 1) | apply X_seqX (x := .seq (.region 1 _ false) _) | apply X_seqX (x := .seq (.seq (.region 1 _ false) _) _)) | (with_reducible apply X_drawC (id := 6) 7; (next => (kernel_rfl)); (next => (kernel_rfl))) | (with_reducible apply X_drawC (id := 13) 15; (next => (kernel_rfl)); (next => (kernel_rfl))) | refine X_of _ ?_ | with_reducible (first | exact ⟨_, rfl⟩ | refine And.intro ?_ ?_ | intro _)) <;> try simp -implicitDefEqProofs (maxSteps := 1000000) (disch := first | exact dz2 | fail) only [vcR, vcT, Int.reduceBEq, Int.reduceBNe, Int.reduceEq, Int.reduceNe, Ab.part, Nat.reduceAdd, Nat.reduceMul, Nat.reduceLeDiff, Nat.reduceEqDiff, Nat.reduceBEq, Nat.reduceBNe, reduceCtorEq, ↓reduceIte, implies_true, forall_const, Int.reduceNeg, Int.reduceToNat, Int.reduceLT, Int.reduceLE, Int.reduceAdd, Int.reduceSub, Int.reduceMul, Int.reducePow, Nat.reducePow, true_or, Option.isNone_some, Option.isNone_none, vcXGb, Tryd.f25, List.toList_toArray, arr4_zero, nat4_set1, nat4_setL, nat4_set0, hx]))
      · have hin : i = n := by omega
        subst hin
        rw [allM_iff.2 hmb] at he
        subst he
        clear hmb h
        (repeat' ((first | with_reducible (first | apply XQ_cons | apply XQ_consG | apply XQ_nil | apply XR_cons | apply XR_consG | apply XR_nil | apply cF_pure2 (by assumption) | apply cV_pure2 (by assumption) | apply cF_ev2 (by assumption) | apply cV_ev2 (by assumption) | apply cF_pure2 (rmpow_c _ _ _ bd2 bd2 bd2) | apply cV_pure2 (rmpow_c _ _ _ bd2 bd2 bd2) | apply cF_pure2 (rmtimes_c _ _ _ bd2 bd2 bd2 bd2) | apply cV_pure2 (rmtimes_c _ _ _ bd2 bd2 bd2 bd2)) | with_reducible (first | apply X_regRS (id := 1) | apply X_regR (id := 1) | apply X_seqX (x := .seq (.region 1 _ false) _) | apply X_seqX (x := .seq (.seq (.region 1 _ false) _) _)) | (with_reducible apply X_drawC (id := 6) 7; (next => (kernel_rfl)); (next => (kernel_rfl))) | (with_reducible apply X_drawC (id := 13) 15; (next => (kernel_rfl)); (next => (kernel_rfl))) | refine X_of _ ?_ | with_reducible (first | exact ⟨_, rfl⟩ | refine And.intro ?_ ?_ | intro _)) <;> try simp -implicitDefEqProofs (maxSteps := 1000000) (disch := first | exact dz2 | fail) only [vcR, vcT, Int.reduceBEq, Int.reduceBNe, Int.reduceEq, Int.reduceNe, Ab.part, Nat.reduceAdd, Nat.reduceMul, Nat.reduceLeDiff, Nat.reduceEqDiff, Nat.reduceBEq, Nat.reduceBNe, reduceCtorEq, ↓reduceIte, implies_true, forall_const, Int.reduceNeg, Int.reduceToNat, Int.reduceLT, Int.reduceLE, Int.reduceAdd, Int.reduceSub, Int.reduceMul, Int.reducePow, Nat.reducePow, true_or, Option.isNone_some, Option.isNone_none, vcXGb, Tryd.f25, List.toList_toArray, arr4_zero, nat4_set1, nat4_setL, nat4_set0]))
        refine X_loop (ι := Nat) (fun k => k ≤ i) (fun k => i - k) [11, 39, 40, 41, 42, 43, 44, 45, 46, 47, 48, 49, 50, 51, 52, 53, 54, 55, 56, 57, 58, 59]
          (fun k => [(11, .s (.v (.int .i64 (k : Nat))))])
          (fun k => [(2, nat4 (mulS P a b k))]) 0 (shape_of fun k => ?_) (by decide) ?_ ?_
        · simp only [List.length_cons, List.length_nil, List.map_cons, List.map_nil, List.nodup_cons, List.nodup_nil, List.mem_cons, Nat.reduceAdd, Nat.reduceEqDiff, or_false, not_false_eq_true, forall_eq_or_imp, forall_eq, or_self, Nat.reduceLT, Nat.reduceLeDiff, and_self, List.forall_mem_cons, List.not_mem_nil, false_implies, implies_true, and_true, true_and, vcOGb]
        · simp -implicitDefEqProofs (maxSteps := 1000000) (disch := first | exact dz2 | fail) only [vcR, vcT, Int.reduceBEq, Int.reduceBNe, Int.reduceEq, Int.reduceNe, Ab.part, Nat.reduceAdd, Nat.reduceMul, Nat.reduceLeDiff, Nat.reduceEqDiff, Nat.reduceBEq, Nat.reduceBNe, reduceCtorEq, ↓reduceIte, implies_true, forall_const, Int.reduceNeg, Int.reduceToNat, Int.reduceLT, Int.reduceLE, Int.reduceAdd, Int.reduceSub, Int.reduceMul, Int.reducePow, Nat.reducePow, true_or, Option.isNone_some, Option.isNone_none, vcXGb, Tryd.f25, List.toList_toArray, again_eq]
          try simp
          all_goals rfl
        · intro k us hk
          by_cases h : k < i
          · obtain ⟨ad, rfl⟩ := hadx (by omega)
            obtain ⟨ay, rfl⟩ := hady (by omega)
            have hx : ∀ {K : TV → HE → Prop}, xext (ctxE Tryd.prog (modEvo 108) w B) (some true) 4 (ad.add (k * 4)) K = K (.agg (nat4 (a k))) .none := fun {K} => hNx.nat h
            have hy : ∀ {K : TV → HE → Prop}, xext (ctxE Tryd.prog (modEvo 108) w B) (some true) 4 (ay.add (k * 4)) K = K (.agg (nat4 (b k))) .none := fun {K} => hNy.nat h
            have hp := rmpow_c P (a k) (b k) hP (ha k) (hb k)
            obtain ⟨p, hpp⟩ : ∃ p, a k ^ b k % P = p := ⟨_, rfl⟩
            have hp2 : p < 2 ^ 256 := by rw [← hpp]; exact hP.mod_lt
            have hs := mulS_lt hP a b k
            have hsi : mulS P a b (k + 1) = mulS P a b k * p % P := by rw [← hpp]; rfl
            obtain ⟨s, hss⟩ : ∃ s, mulS P a b k = s := ⟨_, rfl⟩
            obtain ⟨s', hss'⟩ : ∃ s', mulS P a b (k + 1) = s' := ⟨_, rfl⟩
            rw [hpp] at hp
            rw [hss] at hs hsi ⊢
            have ht := rmtimes_c P s p hP0 hP2 hs hp2
            rw [← hsi, hss'] at ht
            clear ha hb hpp hsi hadx hady
            (repeat' ((first | with_reducible (first | apply XQ_cons | apply XQ_consG | apply XQ_nil | apply XR_cons | apply XR_consG | apply XR_nil | apply cF_pure2 (by assumption) | apply cV_pure2 (by assumption) | apply cF_ev2 (by assumption) | apply cV_ev2 (by assumption)) | with_reducible (first | apply X_regRS (id := 1) | apply X_regR (id := 1) | apply X_seqX (x := .seq (.region 1 _ false) _) | apply X_seqX (x := .seq (.seq (.region 1 _ false) _) _)) | (with_reducible apply X_drawC (id := 6) 7; (next => (kernel_rfl)); (next => (kernel_rfl))) | (with_reducible apply X_drawC (id := 13) 15; (next => (kernel_rfl)); (next => (kernel_rfl))) | refine X_of _ ?_ | with_reducible (first | exact ⟨_, rfl⟩ | refine And.intro ?_ ?_ | intro _)) <;> try simp -implicitDefEqProofs (maxSteps := 1000000) (disch := first | exact dz2 | fail) only [vcR, vcT, Int.reduceBEq, Int.reduceBNe, Int.reduceEq, Int.reduceNe, Ab.part, Nat.reduceAdd, Nat.reduceMul, Nat.reduceLeDiff, Nat.reduceEqDiff, Nat.reduceBEq, Nat.reduceBNe, reduceCtorEq, ↓reduceIte, implies_true, forall_const, Int.reduceNeg, Int.reduceToNat, Int.reduceLT, Int.reduceLE, Int.reduceAdd, Int.reduceSub, Int.reduceMul, Int.reducePow, Nat.reducePow, true_or, Option.isNone_some, Option.isNone_none, vcXGb, Tryd.f25, List.toList_toArray, arr4_zero, nat4_set1, nat4_setL, nat4_set0, hx,hy]))
            refine ⟨k + 1, by omega, ?_⟩
            simp -implicitDefEqProofs (maxSteps := 1000000) (disch := first | exact dz2 | fail) only [vcR, vcT, Int.reduceBEq, Int.reduceBNe, Int.reduceEq, Int.reduceNe, Ab.part, Nat.reduceAdd, Nat.reduceMul, Nat.reduceLeDiff, Nat.reduceEqDiff, Nat.reduceBEq, Nat.reduceBNe, reduceCtorEq, ↓reduceIte, implies_true, forall_const, Int.reduceNeg, Int.reduceToNat, Int.reduceLT, Int.reduceLE, Int.reduceAdd, Int.reduceSub, Int.reduceMul, Int.reducePow, Nat.reducePow, true_or, Option.isNone_some, Option.isNone_none, vcXGb, Tryd.f25, List.toList_toArray, again_eq,hss']
            first | exact ⟨_, rfl, rfl⟩ | exact ⟨_, rfl⟩ | rfl | trace_state
          · have : k = i := by omega
            subst this
            clear hadx hady ha hb
            (repeat' ((first | with_reducible (first | apply XQ_cons | apply XQ_consG | apply XQ_nil | apply XR_cons | apply XR_consG | apply XR_nil | apply cF_pure2 (by assumption) | apply cV_pure2 (by assumption) | apply cF_ev2 (by assumption) | apply cV_ev2 (by assumption) | apply cF_pure2 (rmpow_c _ _ _ bd2 bd2 bd2) | apply cV_pure2 (rmpow_c _ _ _ bd2 bd2 bd2) | apply cF_pure2 (rmtimes_c _ _ _ bd2 bd2 bd2 bd2) | apply cV_pure2 (rmtimes_c _ _ _ bd2 bd2 bd2 bd2)) | with_reducible (first | apply X_regRS (id := 1) | apply X_regR (id := 1) | apply X_seqX (x := .seq (.region 1 _ false) _) | apply X_seqX (x := .seq (.seq (.region 1 _ false) _) _)) | (with_reducible apply X_drawC (id := 6) 7; (next => (kernel_rfl)); (next => (kernel_rfl))) | (with_reducible apply X_drawC (id := 13) 15; (next => (kernel_rfl)); (next => (kernel_rfl))) | refine X_of _ ?_ | with_reducible (first | exact ⟨_, rfl⟩ | refine And.intro ?_ ?_ | intro _)) <;> try simp -implicitDefEqProofs (maxSteps := 1000000) (disch := first | exact dz2 | fail) only [vcR, vcT, Int.reduceBEq, Int.reduceBNe, Int.reduceEq, Int.reduceNe, Ab.part, Nat.reduceAdd, Nat.reduceMul, Nat.reduceLeDiff, Nat.reduceEqDiff, Nat.reduceBEq, Nat.reduceBNe, reduceCtorEq, ↓reduceIte, implies_true, forall_const, Int.reduceNeg, Int.reduceToNat, Int.reduceLT, Int.reduceLE, Int.reduceAdd, Int.reduceSub, Int.reduceMul, Int.reducePow, Nat.reducePow, true_or, Option.isNone_some, Option.isNone_none, vcXGb, Tryd.f25, List.toList_toArray, arr4_zero, nat4_set1, nat4_setL, nat4_set0]))
end Go.Proofs.YtdmcknmjdlghgaaDoor
