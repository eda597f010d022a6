/-
  What sortitionref05's functions say: whether parameters are a group's; members; products of powers.
-/
import Derived.WalkKit
import Derived.StillTail
import Derived.Deep.MidRow
import Derived.DeepKeys
import Derived.Deep.LoopGhost
import Derived.Deep.Quiet
import Derived.Laws.AppendOwn
import Derived.Laws.MakeOwn
import Derived.Laws.Cover3
import Derived.Laws.IdiomCopy
import Derived.Laws.CopyRow
import Derived.Laws.BitsAllLaws
import Derived.Laws.Bits128
import Derived.Lib.BitFns
import Derived.DeepKeys3
import Derived.MapKept
import Derived.Test.YtdmcknmjdlghgaaDoorProg
import Derived.Shelf.Bits.Mul64
import Derived.Shelf.Strconv.Itoa0
import Derived.Shelf.Spec.BitsCarry
import Derived.Tactics
import Derived.Tactics2
import Derived.Defers
import Derived.Laws.Pointers
import Derived.Laws.LoneSync
import Derived.RegionTactic
import Derived.RegionCalls
import Derived.ChangeAlike
import Derived.KernelRfl
import Derived.Laws.NewBlocks
import Derived.Test.YtdmcknmjdlghgaaDoorX01
import Derived.Test.YtdmcknmjdlghgaaDoorX02
import Derived.Test.YtdmcknmjdlghgaaDoorX03
import Derived.Test.YtdmcknmjdlghgaaDoorX04
import Derived.Test.YtdmcknmjdlghgaaDoorX06
import Derived.Test.YtdmcknmjdlghgaaDoorX07
import Derived.Test.YtdmcknmjdlghgaaDoorX08
import Derived.Test.YtdmcknmjdlghgaaDoorX10
import Derived.Test.YtdmcknmjdlghgaaDoorX14
import Derived.Test.YtdmcknmjdlghgaaDoorX15
namespace Go.Proofs.YtdmcknmjdlghgaaDoor
open Go Go.Ab
set_option linter.unusedSimpArgs false
set_option linter.unusedVariables false
set_option linter.defProp false
set_option maxHeartbeats 20000000
set_option maxRecDepth 100000


theorem rgCheck_1 (P Q G : Nat) (x : Option Addr) (m c : Nat) (l : Nat → Pf) (hP : P < 2 ^ 256) (hQ : Q < 2 ^ 256) (hG : G < 2 ^ 256) (hl : PfOk l) (hm : m < 9223372036854775808) (e : Int) (he : pvS l m Q = e) (he0 : e ≠ 0) :
    PureM Tryd.prog 20 [.agg (prms P Q G), .s (.v (.slice x m c))] (fun w => prfs x m l w) (.s (.v (.int .i64 e))) := by
  have hpv := (rproves_m x m c l Q hl hm hQ).ev (V := Evo.none)
  rw [he] at hpv
  (refine pureM_of Tryd.func20 rfl (by simp only [List.length_cons, List.length_nil, List.map_cons, List.map_nil, List.nodup_cons, List.nodup_nil, List.mem_cons, Nat.reduceAdd, Nat.reduceEqDiff, or_false, not_false_eq_true, forall_eq_or_imp, forall_eq, or_self, Nat.reduceLT, Nat.reduceLeDiff, and_self, List.forall_mem_cons, List.not_mem_nil, false_implies, implies_true, and_true, true_and, vcOGb]) (by simp only [List.length_cons, List.length_nil, List.map_cons, List.map_nil, List.nodup_cons, List.nodup_nil, List.mem_cons, Nat.reduceAdd, Nat.reduceEqDiff, or_false, not_false_eq_true, forall_eq_or_imp, forall_eq, or_self, Nat.reduceLT, Nat.reduceLeDiff, and_self, List.forall_mem_cons, List.not_mem_nil, false_implies, implies_true, and_true, true_and, vcOGb]) fun w hpre => ?_; simp only [List.length_cons, List.length_nil, Tryd.ntmps20, Nat.reduceAdd, Nat.reduceSub, List.replicate_succ, List.replicate_zero, List.cons_append, List.nil_append])
  have hFL : Kn (ctx0 Tryd.prog w) fun _ w => prfs x m l w := fun w' hw' => (prfs_kn (P0 := Tryd.prog) hpre).prfs0 w' hw'
  clear hpre
  have hd : (e != 0) = true := bne_iff_ne.2 he0
  clear he hl
  (repeat' ((first | with_reducible (first | apply XR_cons | apply XR_consG | apply XR_nil | apply cF_pure2 (by assumption) | apply cF_ev2 (by assumption) | apply cF_pure2 (rcmp_c _ _ bd2 bd2) | apply cF_pure2 (rmpow_c _ _ _ bd2 bd2 bd2)) | with_reducible (first | apply X_regRS (id := 4) | apply X_regR (id := 4) | apply X_seqX (x := .seq (.region 4 _ false) _) | apply X_seqX (x := .seq (.seq (.region 4 _ false) _) _) | apply X_regRS (id := 6) | apply X_regR (id := 6) | apply X_seqX (x := .seq (.region 6 _ false) _) | apply X_seqX (x := .seq (.seq (.region 6 _ false) _) _)) | refine X_of _ ?_ | with_reducible (first | exact ⟨_, rfl⟩ | refine And.intro ?_ ?_ | intro _)) <;> try simp -implicitDefEqProofs (maxSteps := 1000000) (disch := first | exact dz2 | fail) only [vcR, vcT, Int.reduceBEq, Int.reduceBNe, Int.reduceEq, Int.reduceNe, Ab.part, Nat.reduceAdd, Nat.reduceMul, Nat.reduceLeDiff, Nat.reduceEqDiff, Nat.reduceBEq, Nat.reduceBNe, reduceCtorEq, ↓reduceIte, implies_true, forall_const, Int.reduceNeg, Int.reduceToNat, Int.reduceLT, Int.reduceLE, Int.reduceAdd, Int.reduceSub, Int.reduceMul, Int.reducePow, Nat.reducePow, true_or, Option.isNone_some, Option.isNone_none, vcXGb, Tryd.f20, List.toList_toArray, arr4_zero, nat4_set1, nat4_setL, nat4_set0, prms_splice,hd]))

theorem rgCheck_2 (P Q G : Nat) (x : Option Addr) (m c : Nat) (l : Nat → Pf) (hP : P < 2 ^ 256) (hQ : Q < 2 ^ 256) (hG : G < 2 ^ 256) (hl : PfOk l) (hm : m < 9223372036854775808) (he : pvS l m Q = 0) (hQo : Q = 2 ∨ (Q % 2 = 1 ∧ 3 ≤ Q)) (e : Int) (hok : grOK P Q G → e = 0) (hno : ¬ grOK P Q G → e = 21) :
    PureM Tryd.prog 20 [.agg (prms P Q G), .s (.v (.slice x m c))] (fun w => prfs x m l w) (.s (.v (.int .i64 e))) := by
  have hpv := (rproves_m x m c l Q hl hm hQ).ev (V := Evo.none)
  rw [he] at hpv
  clear he hl
  (refine pureM_of Tryd.func20 rfl (by simp only [List.length_cons, List.length_nil, List.map_cons, List.map_nil, List.nodup_cons, List.nodup_nil, List.mem_cons, Nat.reduceAdd, Nat.reduceEqDiff, or_false, not_false_eq_true, forall_eq_or_imp, forall_eq, or_self, Nat.reduceLT, Nat.reduceLeDiff, and_self, List.forall_mem_cons, List.not_mem_nil, false_implies, implies_true, and_true, true_and, vcOGb]) (by simp only [List.length_cons, List.length_nil, List.map_cons, List.map_nil, List.nodup_cons, List.nodup_nil, List.mem_cons, Nat.reduceAdd, Nat.reduceEqDiff, or_false, not_false_eq_true, forall_eq_or_imp, forall_eq, or_self, Nat.reduceLT, Nat.reduceLeDiff, and_self, List.forall_mem_cons, List.not_mem_nil, false_implies, implies_true, and_true, true_and, vcOGb]) fun w hpre => ?_; simp only [List.length_cons, List.length_nil, Tryd.ntmps20, Nat.reduceAdd, Nat.reduceSub, List.replicate_succ, List.replicate_zero, List.cons_append, List.nil_append])
  have hFL : Kn (ctx0 Tryd.prog w) fun _ w => prfs x m l w := fun w' hw' => (prfs_kn (P0 := Tryd.prog) hpre).prfs0 w' hw'
  clear hpre
  have hw0 := wd_low_odd P
  have hwl := wd_lt P 0
  by_cases hPe : P % 2 = 0
  · have hee := hno fun h => absurd h.1.odd (by omega)
    subst hee
    have hp0 : (wd P 0 % 2 == 0) = true := beq_iff_eq.2 (hw0.trans hPe)
    clear hok hno hQo
    (repeat' ((first | with_reducible (first | apply XR_cons | apply XR_consG | apply XR_nil | apply cF_pure2 (by assumption) | apply cF_ev2 (by assumption) | apply cF_pure2 (rcmp_c _ _ bd2 bd2) | apply cF_pure2 (rmpow_c _ _ _ bd2 bd2 bd2)) | with_reducible (first | apply X_regRS (id := 4) | apply X_regR (id := 4) | apply X_seqX (x := .seq (.region 4 _ false) _) | apply X_seqX (x := .seq (.seq (.region 4 _ false) _) _) | apply X_regRS (id := 6) | apply X_regR (id := 6) | apply X_seqX (x := .seq (.region 6 _ false) _) | apply X_seqX (x := .seq (.seq (.region 6 _ false) _) _)) | refine X_of _ ?_ | with_reducible (first | exact ⟨_, rfl⟩ | refine And.intro ?_ ?_ | intro _)) <;> try simp -implicitDefEqProofs (maxSteps := 1000000) (disch := first | exact dz2 | fail) only [vcR, vcT, Int.reduceBEq, Int.reduceBNe, Int.reduceEq, Int.reduceNe, Ab.part, Nat.reduceAdd, Nat.reduceMul, Nat.reduceLeDiff, Nat.reduceEqDiff, Nat.reduceBEq, Nat.reduceBNe, reduceCtorEq, ↓reduceIte, implies_true, forall_const, Int.reduceNeg, Int.reduceToNat, Int.reduceLT, Int.reduceLE, Int.reduceAdd, Int.reduceSub, Int.reduceMul, Int.reducePow, Nat.reducePow, true_or, Option.isNone_some, Option.isNone_none, vcXGb, Tryd.f20, List.toList_toArray, arr4_zero, nat4_set1, nat4_setL, nat4_set0, prms_splice,bne_self_eq_false,hp0]))
  · have hp0 : (wd P 0 % 2 == 0) = false := by rw [hw0]; exact beq_false_of_ne hPe
    by_cases c5 : P < 5
    · have hee := hno fun h => absurd h.2.2.1 (by omega)
      subst hee
      have hs := sg_lt0 c5
      clear hok hno hQo
      (repeat' ((first | with_reducible (first | apply XR_cons | apply XR_consG | apply XR_nil | apply cF_pure2 (by assumption) | apply cF_ev2 (by assumption) | apply cF_pure2 (rcmp_c _ _ bd2 bd2) | apply cF_pure2 (rmpow_c _ _ _ bd2 bd2 bd2)) | with_reducible (first | apply X_regRS (id := 4) | apply X_regR (id := 4) | apply X_seqX (x := .seq (.region 4 _ false) _) | apply X_seqX (x := .seq (.seq (.region 4 _ false) _) _) | apply X_regRS (id := 6) | apply X_regR (id := 6) | apply X_seqX (x := .seq (.region 6 _ false) _) | apply X_seqX (x := .seq (.seq (.region 6 _ false) _) _)) | refine X_of _ ?_ | with_reducible (first | exact ⟨_, rfl⟩ | refine And.intro ?_ ?_ | intro _)) <;> try simp -implicitDefEqProofs (maxSteps := 1000000) (disch := first | exact dz2 | fail) only [vcR, vcT, Int.reduceBEq, Int.reduceBNe, Int.reduceEq, Int.reduceNe, Ab.part, Nat.reduceAdd, Nat.reduceMul, Nat.reduceLeDiff, Nat.reduceEqDiff, Nat.reduceBEq, Nat.reduceBNe, reduceCtorEq, ↓reduceIte, implies_true, forall_const, Int.reduceNeg, Int.reduceToNat, Int.reduceLT, Int.reduceLE, Int.reduceAdd, Int.reduceSub, Int.reduceMul, Int.reducePow, Nat.reducePow, true_or, Option.isNone_some, Option.isNone_none, vcXGb, Tryd.f20, List.toList_toArray, arr4_zero, nat4_set1, nat4_setL, nat4_set0, prms_splice,bne_self_eq_false,hp0,hs]))
    · have hs : ¬ sg P 5 < 0 := by have := sg_nonneg (Nat.le_of_not_lt c5); omega
      by_cases cq2 : Q = 2
      · have hee := hno fun h => absurd h.2.1.odd (by omega)
        subst hee
        subst cq2
        clear hok hno hQo
        (repeat' ((first | with_reducible (first | apply XR_cons | apply XR_consG | apply XR_nil | apply cF_pure2 (by assumption) | apply cF_ev2 (by assumption) | apply cF_pure2 (rcmp_c _ _ bd2 bd2) | apply cF_pure2 (rmpow_c _ _ _ bd2 bd2 bd2)) | with_reducible (first | apply X_regRS (id := 4) | apply X_regR (id := 4) | apply X_seqX (x := .seq (.region 4 _ false) _) | apply X_seqX (x := .seq (.seq (.region 4 _ false) _) _) | apply X_regRS (id := 6) | apply X_regR (id := 6) | apply X_seqX (x := .seq (.region 6 _ false) _) | apply X_seqX (x := .seq (.seq (.region 6 _ false) _) _)) | refine X_of _ ?_ | with_reducible (first | exact ⟨_, rfl⟩ | refine And.intro ?_ ?_ | intro _)) <;> try simp -implicitDefEqProofs (maxSteps := 1000000) (disch := first | exact dz2 | fail) only [vcR, vcT, Int.reduceBEq, Int.reduceBNe, Int.reduceEq, Int.reduceNe, Ab.part, Nat.reduceAdd, Nat.reduceMul, Nat.reduceLeDiff, Nat.reduceEqDiff, Nat.reduceBEq, Nat.reduceBNe, reduceCtorEq, ↓reduceIte, implies_true, forall_const, Int.reduceNeg, Int.reduceToNat, Int.reduceLT, Int.reduceLE, Int.reduceAdd, Int.reduceSub, Int.reduceMul, Int.reducePow, Nat.reducePow, true_or, Option.isNone_some, Option.isNone_none, vcXGb, Tryd.f20, List.toList_toArray, arr4_zero, nat4_set1, nat4_setL, nat4_set0, prms_splice,bne_self_eq_false,hp0,hs]))
      · have hq2 : decide (Q = 2) = false := decide_eq_false cq2
        have hOP : OddM P := ⟨hP, by omega, by omega⟩
        have hOQ : OddM Q := ⟨hQ, by omega, by omega⟩
        by_cases cq : Q < P
        · have hs2 : ¬ sg Q P ≥ 0 := by have := sg_lt0 cq; omega
          by_cases c2 : G < 2
          · have hee := hno fun h => absurd h.2.2.2.2.1 (by omega)
            subst hee
            have hs3 := sg_lt0 c2
            clear hok hno hQo
            (repeat' ((first | with_reducible (first | apply XR_cons | apply XR_consG | apply XR_nil | apply cF_pure2 (by assumption) | apply cF_ev2 (by assumption) | apply cF_pure2 (rcmp_c _ _ bd2 bd2) | apply cF_pure2 (rmpow_c _ _ _ bd2 bd2 bd2)) | with_reducible (first | apply X_regRS (id := 4) | apply X_regR (id := 4) | apply X_seqX (x := .seq (.region 4 _ false) _) | apply X_seqX (x := .seq (.seq (.region 4 _ false) _) _) | apply X_regRS (id := 6) | apply X_regR (id := 6) | apply X_seqX (x := .seq (.region 6 _ false) _) | apply X_seqX (x := .seq (.seq (.region 6 _ false) _) _)) | refine X_of _ ?_ | with_reducible (first | exact ⟨_, rfl⟩ | refine And.intro ?_ ?_ | intro _)) <;> try simp -implicitDefEqProofs (maxSteps := 1000000) (disch := first | exact dz2 | fail) only [vcR, vcT, Int.reduceBEq, Int.reduceBNe, Int.reduceEq, Int.reduceNe, Ab.part, Nat.reduceAdd, Nat.reduceMul, Nat.reduceLeDiff, Nat.reduceEqDiff, Nat.reduceBEq, Nat.reduceBNe, reduceCtorEq, ↓reduceIte, implies_true, forall_const, Int.reduceNeg, Int.reduceToNat, Int.reduceLT, Int.reduceLE, Int.reduceAdd, Int.reduceSub, Int.reduceMul, Int.reducePow, Nat.reducePow, true_or, Option.isNone_some, Option.isNone_none, vcXGb, Tryd.f20, List.toList_toArray, arr4_zero, nat4_set1, nat4_setL, nat4_set0, prms_splice,bne_self_eq_false,hp0,hs,hq2,hs2,hs3]))
          · have hs3 : ¬ sg G 2 < 0 := by have := sg_nonneg (Nat.le_of_not_lt c2); omega
            by_cases cg : G < P
            · have hs4 : ¬ sg G P ≥ 0 := by have := sg_lt0 cg; omega
              have hpw := rmpow_c P G Q hOP hG hQ
              obtain ⟨r, hr⟩ : ∃ r, G ^ Q % P = r := ⟨_, rfl⟩
              have hr2 : r < 2 ^ 256 := by rw [← hr]; exact hOP.mod_lt
              rw [hr] at hpw
              by_cases hr1 : r = 1
              · have hee := hok ⟨hOP, hOQ, by omega, cq, by omega, cg, hr.trans hr1⟩
                subst hee
                subst hr1
                clear hok hno hQo hr
                (repeat' ((first | with_reducible (first | apply XR_cons | apply XR_consG | apply XR_nil | apply cF_pure2 (by assumption) | apply cF_ev2 (by assumption) | apply cF_pure2 (rcmp_c _ _ bd2 bd2)) | with_reducible (first | apply X_regRS (id := 4) | apply X_regR (id := 4) | apply X_seqX (x := .seq (.region 4 _ false) _) | apply X_seqX (x := .seq (.seq (.region 4 _ false) _) _) | apply X_regRS (id := 6) | apply X_regR (id := 6) | apply X_seqX (x := .seq (.region 6 _ false) _) | apply X_seqX (x := .seq (.seq (.region 6 _ false) _) _)) | refine X_of _ ?_ | with_reducible (first | exact ⟨_, rfl⟩ | refine And.intro ?_ ?_ | intro _)) <;> try simp -implicitDefEqProofs (maxSteps := 1000000) (disch := first | exact dz2 | fail) only [vcR, vcT, Int.reduceBEq, Int.reduceBNe, Int.reduceEq, Int.reduceNe, Ab.part, Nat.reduceAdd, Nat.reduceMul, Nat.reduceLeDiff, Nat.reduceEqDiff, Nat.reduceBEq, Nat.reduceBNe, reduceCtorEq, ↓reduceIte, implies_true, forall_const, Int.reduceNeg, Int.reduceToNat, Int.reduceLT, Int.reduceLE, Int.reduceAdd, Int.reduceSub, Int.reduceMul, Int.reducePow, Nat.reducePow, true_or, Option.isNone_some, Option.isNone_none, vcXGb, Tryd.f20, List.toList_toArray, arr4_zero, nat4_set1, nat4_setL, nat4_set0, prms_splice,bne_self_eq_false,hp0,hs,hq2,hs2,hs3,hs4]))
              · have hee := hno fun h => hr1 (hr.symm.trans h.2.2.2.2.2.2)
                subst hee
                have hd1 : decide (r = 1) = false := decide_eq_false hr1
                clear hok hno hQo hr
                (repeat' ((first | with_reducible (first | apply XR_cons | apply XR_consG | apply XR_nil | apply cF_pure2 (by assumption) | apply cF_ev2 (by assumption) | apply cF_pure2 (rcmp_c _ _ bd2 bd2)) | with_reducible (first | apply X_regRS (id := 4) | apply X_regR (id := 4) | apply X_seqX (x := .seq (.region 4 _ false) _) | apply X_seqX (x := .seq (.seq (.region 4 _ false) _) _) | apply X_regRS (id := 6) | apply X_regR (id := 6) | apply X_seqX (x := .seq (.region 6 _ false) _) | apply X_seqX (x := .seq (.seq (.region 6 _ false) _) _)) | refine X_of _ ?_ | with_reducible (first | exact ⟨_, rfl⟩ | refine And.intro ?_ ?_ | intro _)) <;> try simp -implicitDefEqProofs (maxSteps := 1000000) (disch := first | exact dz2 | fail) only [vcR, vcT, Int.reduceBEq, Int.reduceBNe, Int.reduceEq, Int.reduceNe, Ab.part, Nat.reduceAdd, Nat.reduceMul, Nat.reduceLeDiff, Nat.reduceEqDiff, Nat.reduceBEq, Nat.reduceBNe, reduceCtorEq, ↓reduceIte, implies_true, forall_const, Int.reduceNeg, Int.reduceToNat, Int.reduceLT, Int.reduceLE, Int.reduceAdd, Int.reduceSub, Int.reduceMul, Int.reducePow, Nat.reducePow, true_or, Option.isNone_some, Option.isNone_none, vcXGb, Tryd.f20, List.toList_toArray, arr4_zero, nat4_set1, nat4_setL, nat4_set0, prms_splice,bne_self_eq_false,hp0,hs,hq2,hs2,hs3,hs4,hd1]))
            · have hee := hno fun h => absurd h.2.2.2.2.2.1 cg
              subst hee
              have hs4 : sg G P ≥ 0 := sg_nonneg (Nat.le_of_not_lt cg)
              clear hok hno hQo
              (repeat' ((first | with_reducible (first | apply XR_cons | apply XR_consG | apply XR_nil | apply cF_pure2 (by assumption) | apply cF_ev2 (by assumption) | apply cF_pure2 (rcmp_c _ _ bd2 bd2) | apply cF_pure2 (rmpow_c _ _ _ bd2 bd2 bd2)) | with_reducible (first | apply X_regRS (id := 4) | apply X_regR (id := 4) | apply X_seqX (x := .seq (.region 4 _ false) _) | apply X_seqX (x := .seq (.seq (.region 4 _ false) _) _) | apply X_regRS (id := 6) | apply X_regR (id := 6) | apply X_seqX (x := .seq (.region 6 _ false) _) | apply X_seqX (x := .seq (.seq (.region 6 _ false) _) _)) | refine X_of _ ?_ | with_reducible (first | exact ⟨_, rfl⟩ | refine And.intro ?_ ?_ | intro _)) <;> try simp -implicitDefEqProofs (maxSteps := 1000000) (disch := first | exact dz2 | fail) only [vcR, vcT, Int.reduceBEq, Int.reduceBNe, Int.reduceEq, Int.reduceNe, Ab.part, Nat.reduceAdd, Nat.reduceMul, Nat.reduceLeDiff, Nat.reduceEqDiff, Nat.reduceBEq, Nat.reduceBNe, reduceCtorEq, ↓reduceIte, implies_true, forall_const, Int.reduceNeg, Int.reduceToNat, Int.reduceLT, Int.reduceLE, Int.reduceAdd, Int.reduceSub, Int.reduceMul, Int.reducePow, Nat.reducePow, true_or, Option.isNone_some, Option.isNone_none, vcXGb, Tryd.f20, List.toList_toArray, arr4_zero, nat4_set1, nat4_setL, nat4_set0, prms_splice,bne_self_eq_false,hp0,hs,hq2,hs2,hs3,hs4]))
        · have hee := hno fun h => absurd h.2.2.2.1 cq
          subst hee
          have hs2 : sg Q P ≥ 0 := sg_nonneg (Nat.le_of_not_lt cq)
          clear hok hno hQo
          (repeat' ((first | with_reducible (first | apply XR_cons | apply XR_consG | apply XR_nil | apply cF_pure2 (by assumption) | apply cF_ev2 (by assumption) | apply cF_pure2 (rcmp_c _ _ bd2 bd2) | apply cF_pure2 (rmpow_c _ _ _ bd2 bd2 bd2)) | with_reducible (first | apply X_regRS (id := 4) | apply X_regR (id := 4) | apply X_seqX (x := .seq (.region 4 _ false) _) | apply X_seqX (x := .seq (.seq (.region 4 _ false) _) _) | apply X_regRS (id := 6) | apply X_regR (id := 6) | apply X_seqX (x := .seq (.region 6 _ false) _) | apply X_seqX (x := .seq (.seq (.region 6 _ false) _) _)) | refine X_of _ ?_ | with_reducible (first | exact ⟨_, rfl⟩ | refine And.intro ?_ ?_ | intro _)) <;> try simp -implicitDefEqProofs (maxSteps := 1000000) (disch := first | exact dz2 | fail) only [vcR, vcT, Int.reduceBEq, Int.reduceBNe, Int.reduceEq, Int.reduceNe, Ab.part, Nat.reduceAdd, Nat.reduceMul, Nat.reduceLeDiff, Nat.reduceEqDiff, Nat.reduceBEq, Nat.reduceBNe, reduceCtorEq, ↓reduceIte, implies_true, forall_const, Int.reduceNeg, Int.reduceToNat, Int.reduceLT, Int.reduceLE, Int.reduceAdd, Int.reduceSub, Int.reduceMul, Int.reducePow, Nat.reducePow, true_or, Option.isNone_some, Option.isNone_none, vcXGb, Tryd.f20, List.toList_toArray, arr4_zero, nat4_set1, nat4_setL, nat4_set0, prms_splice,bne_self_eq_false,hp0,hs,hq2,hs2]))


end Go.Proofs.YtdmcknmjdlghgaaDoor
