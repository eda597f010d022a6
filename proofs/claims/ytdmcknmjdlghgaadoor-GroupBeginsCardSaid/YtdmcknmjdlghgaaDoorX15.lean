/-
  sortitionref04: is a proof one, if its factors are prime?
  sortitionref04: is a list one, and what it proves.
-/
import Derived.WalkKit
import Derived.StillTail
import Derived.Deep.MidRow
import Derived.DeepKeys
import Derived.Deep.LoopGhost
import Derived.Deep.Quiet
import Derived.Laws.AppendOwn
import Derived.Laws.MakeOwn
import Derived.Laws.Cover3
import Derived.Laws.IdiomCopy
import Derived.Laws.CopyRow
import Derived.Laws.BitsAllLaws
import Derived.Laws.Bits128
import Derived.Lib.BitFns
import Derived.DeepKeys3
import Derived.MapKept
import Derived.Test.YtdmcknmjdlghgaaDoorProg
import Derived.Shelf.Bits.Mul64
import Derived.Shelf.Strconv.Itoa0
import Derived.Shelf.Spec.BitsCarry
import Derived.Tactics
import Derived.Tactics2
import Derived.Defers
import Derived.Laws.Pointers
import Derived.Laws.LoneSync
import Derived.RegionTactic
import Derived.RegionCalls
import Derived.ChangeAlike
import Derived.KernelRfl
import Derived.Laws.NewBlocks
import Derived.Test.YtdmcknmjdlghgaaDoorX01
import Derived.Test.YtdmcknmjdlghgaaDoorX02
import Derived.Test.YtdmcknmjdlghgaaDoorX03
import Derived.Test.YtdmcknmjdlghgaaDoorX04
import Derived.Test.YtdmcknmjdlghgaaDoorX06
import Derived.Test.YtdmcknmjdlghgaaDoorX07
import Derived.Test.YtdmcknmjdlghgaaDoorX10
import Derived.Test.YtdmcknmjdlghgaaDoorX11
import Derived.Test.YtdmcknmjdlghgaaDoorX14
namespace Go.Proofs.YtdmcknmjdlghgaaDoor
open Go Go.Ab
set_option linter.unusedSimpArgs false
set_option linter.unusedVariables false
set_option linter.defProp false
set_option maxHeartbeats 20000000
set_option maxRecDepth 100000

theorem odd_iff' {N : Nat} (hN : N < 2 ^ 256) : OddM N ↔ (N % 2 = 1 ∧ 3 ≤ N) := ⟨fun h => ⟨h.odd, by have := h.gt; have := h.odd; omega⟩, fun h => ⟨hN, h.1, by omega⟩⟩
theorem sg_nlt0' {a b : Nat} (h : ¬ a < b) : ¬ sg a b < 0 := by
  unfold sg
  rw [if_neg h]
  split <;> decide

theorem prf_w0 {N G : Nat} {s : SV} : (prf N G s)[0]? = some (.v (.int .u64 (wd N 0 : Int))) := rfl


theorem rstep_m (N G : Nat) (x : Option Addr) (n c : Nat) (P : Nat → Nat) (E : Nat → Int) (hN : N < 2 ^ 256) (hG : G < 2 ^ 256) (hP : ∀ i, P i < 2 ^ 256) (hE : ∀ i, -9223372036854775808 ≤ E i ∧ E i < 9223372036854775808) (hn : n < 9223372036854775808) :
    PureM Tryd.prog 94 [.agg (prf N G (.v (.slice x n c)))] (fun w => facs x n P E w) (.s (.v (.int .i64 (stS N G n P E)))) := by
  have hpr := (rproduct_m x n c P E hP hE hn).ev (V := Evo.none)
  have hpl := prS_lt (n := n) (P := P) (E := E) hP
  obtain ⟨a, e, hae⟩ : ∃ a e, prS n P E = (a, e) := ⟨_, _, rfl⟩
  rw [hae] at hpr hpl
  dsimp only at hpr
  have ha : a < 2 ^ 256 := hpl
  clear hpl
  obtain ⟨r, hr⟩ : ∃ r, stS N G n P E = r := ⟨_, rfl⟩
  rw [hr]
  (refine pureM_of Tryd.func94 rfl (by simp only [List.length_cons, List.length_nil, List.map_cons, List.map_nil, List.nodup_cons, List.nodup_nil, List.mem_cons, Nat.reduceAdd, Nat.reduceEqDiff, or_false, not_false_eq_true, forall_eq_or_imp, forall_eq, or_self, Nat.reduceLT, Nat.reduceLeDiff, and_self, List.forall_mem_cons, List.not_mem_nil, false_implies, implies_true, and_true, true_and, vcOPb]) (by simp only [List.length_cons, List.length_nil, List.map_cons, List.map_nil, List.nodup_cons, List.nodup_nil, List.mem_cons, Nat.reduceAdd, Nat.reduceEqDiff, or_false, not_false_eq_true, forall_eq_or_imp, forall_eq, or_self, Nat.reduceLT, Nat.reduceLeDiff, and_self, List.forall_mem_cons, List.not_mem_nil, false_implies, implies_true, and_true, true_and, vcOPb]) fun w hpre => ?_; simp only [List.length_cons, List.length_nil, Tryd.ntmps94, Nat.reduceAdd, Nat.reduceSub, List.replicate_succ, List.replicate_zero, List.cons_append, List.nil_append])
  have hF : Kn (ctx0 Tryd.prog w) (facsAt Evo.none x n P E) := facs_kn hpre
  have hF0 : Kn (ctx0 Tryd.prog w) fun _ w => facs x n P E w := hF.facs0
  have hadr : n ≠ 0 → ∃ ad, x = some ad := fun h => by
    rcases hpre with h0 | ⟨ad, h0, _⟩
    · omega
    · exact ⟨ad, h0⟩
  clear hpre
  by_cases he : e ≠ 0
  · have he' : (e != 0) = true := by simpa using he
    rw [stS_e hae he] at hr
    subst hr
    (repeat' ((first | with_reducible (first | apply XQ_cons | apply XQ_consG | apply XQ_nil | apply XR_cons | apply XR_consG | apply XR_nil | apply XM_cons | apply XM_consG | apply XM_nil | apply cF_pure1 (by assumption) | apply cV_pure1 (by assumption) | apply cM_pure1 (by assumption) | apply cF_ev1 (by assumption) | apply cV_ev1 (by assumption) | apply cM_ev1 (by assumption) | apply cF_pure1 (rcmp_c _ _ bd1 bd1) | apply cV_pure1 (rcmp_c _ _ bd1 bd1) | apply cM_pure1 (rcmp_c _ _ bd1 bd1) | apply cF_pure1 (rdiv_c _ _ bd1 bd1 bd1) | apply cV_pure1 (rdiv_c _ _ bd1 bd1 bd1) | apply cM_pure1 (rdiv_c _ _ bd1 bd1 bd1) | apply cF_pure1 (rmpow_c _ _ _ bd1 bd1 bd1) | apply cV_pure1 (rmpow_c _ _ _ bd1 bd1 bd1) | apply cM_pure1 (rmpow_c _ _ _ bd1 bd1 bd1)) | with_reducible (first | apply X_regRS (id := 1) | apply X_regR (id := 1) | apply X_seqX (x := .seq (.region 1 _ false) _) | apply X_seqX (x := .seq (.seq (.region 1 _ false) _) _) | apply X_regRS (id := 4) | apply X_regR (id := 4) | apply X_seqX (x := .seq (.region 4 _ false) _) | apply X_seqX (x := .seq (.seq (.region 4 _ false) _) _) | apply X_regRS (id := 7) | apply X_regR (id := 7) | apply X_seqX (x := .seq (.region 7 _ false) _) | apply X_seqX (x := .seq (.seq (.region 7 _ false) _) _) | apply X_regRS (id := 13) | apply X_regR (id := 13) | apply X_seqX (x := .seq (.region 13 _ false) _) | apply X_seqX (x := .seq (.seq (.region 13 _ false) _) _)) | (with_reducible apply X_drawC (id := 8) 13; (next => (kernel_rfl)); (next => (kernel_rfl))) | (with_reducible apply X_drawM (id := 15) 12 [] (.cons 12 (.cons 13 (.cons 14 (.cons 15 (.cons 16 .nil .nil) .nil) .nil) .nil) (.cons 13 (.cons 12 (.cons 14 (.cons 15 (.cons 16 .nil .nil) .nil) .nil) .nil) .nil)); (next => (kernel_rfl)); (next => (kernel_rfl))) | (with_reducible apply X_drawC (id := 16) 8; (next => (kernel_rfl)); (next => (kernel_rfl))) | refine X_of _ ?_ | with_reducible (first | exact ⟨_, rfl⟩ | refine And.intro ?_ ?_ | intro _)) <;> try simp -implicitDefEqProofs (maxSteps := 1000000) (disch := first | exact dz1 | fail) only [vcR, vcT, Int.reduceBEq, Int.reduceBNe, Int.reduceEq, Int.reduceNe, Ab.part, Nat.reduceAdd, Nat.reduceMul, Nat.reduceLeDiff, Nat.reduceEqDiff, Nat.reduceBEq, Nat.reduceBNe, reduceCtorEq, ↓reduceIte, implies_true, forall_const, Int.reduceNeg, Int.reduceToNat, Int.reduceLT, Int.reduceLE, Int.reduceAdd, Int.reduceSub, Int.reduceMul, Int.reducePow, Nat.reducePow, true_or, Option.isNone_some, Option.isNone_none, vcXPb, Tryd.f94, List.toList_toArray, arr4_zero, nat4_set1, nat4_setL, nat4_set0, he']))
  · have he0 : e = 0 := Classical.not_not.1 he
    subst he0
    have hw := wd_low_odd N
    obtain ⟨w0, hw0⟩ : ∃ w0, wd N 0 = w0 := ⟨_, rfl⟩
    rw [hw0] at hw
    by_cases hO : OddM N
    · have h3 := hO.gt
      have hodd := hO.odd
      have hsub := rsub_c N 1 (N - 1) 0 hN (by decide) (by omega) (by omega)
      have hO' := (odd_iff' hN).1 hO
      have hev : (w0 % 2 == 0) = false := by
        rw [beq_eq_false_iff_ne]
        omega
      have hs3 : ¬ sg N 3 < 0 := sg_nlt0' (by omega)
      have hl1 : litsEq (lits 4 (wd a)) (lits 4 (wd (N - 1))) = decide (a = N - 1) := litsEq_nat4 ha (by omega)
      obtain ⟨M1, hNM⟩ : ∃ M1, N - 1 = M1 := ⟨_, rfl⟩
      rw [hNM] at hsub hl1
      have hM1l : M1 < 2 ^ 256 := by omega
      have hl2 : litsEq (lits 4 (wd (G ^ M1 % N))) (lits 4 (wd 1)) = decide (G ^ M1 % N = 1) := litsEq_nat4 hO.mod_lt (by decide)
      have hpow := fun q hq => rmpow_c N G q hO hG hq
      by_cases ha1 : a = M1
      · rw [decide_eq_true ha1] at hl1
        by_cases hR1 : G ^ M1 % N = 1
        · rw [decide_eq_true hR1] at hl2
          (repeat' ((first | with_reducible (first | apply XQ_cons | apply XQ_consG | apply XQ_nil | apply XR_cons | apply XR_consG | apply XR_nil | apply XM_cons | apply XM_consG | apply XM_nil | apply cF_pure1 (by assumption) | apply cV_pure1 (by assumption) | apply cM_pure1 (by assumption) | apply cF_ev1 (by assumption) | apply cV_ev1 (by assumption) | apply cM_ev1 (by assumption) | apply cF_pure1 (rcmp_c _ _ bd1 bd1) | apply cV_pure1 (rcmp_c _ _ bd1 bd1) | apply cM_pure1 (rcmp_c _ _ bd1 bd1) | apply cF_pure1 (rdiv_c _ _ bd1 bd1 bd1) | apply cV_pure1 (rdiv_c _ _ bd1 bd1 bd1) | apply cM_pure1 (rdiv_c _ _ bd1 bd1 bd1) | apply cF_pure1 (rmpow_c _ _ _ bd1 bd1 bd1) | apply cV_pure1 (rmpow_c _ _ _ bd1 bd1 bd1) | apply cM_pure1 (rmpow_c _ _ _ bd1 bd1 bd1)) | with_reducible (first | apply X_regRS (id := 1) | apply X_regR (id := 1) | apply X_seqX (x := .seq (.region 1 _ false) _) | apply X_seqX (x := .seq (.seq (.region 1 _ false) _) _) | apply X_regRS (id := 4) | apply X_regR (id := 4) | apply X_seqX (x := .seq (.region 4 _ false) _) | apply X_seqX (x := .seq (.seq (.region 4 _ false) _) _) | apply X_regRS (id := 7) | apply X_regR (id := 7) | apply X_seqX (x := .seq (.region 7 _ false) _) | apply X_seqX (x := .seq (.seq (.region 7 _ false) _) _) | apply X_regRS (id := 13) | apply X_regR (id := 13) | apply X_seqX (x := .seq (.region 13 _ false) _) | apply X_seqX (x := .seq (.seq (.region 13 _ false) _) _)) | (with_reducible apply X_drawC (id := 8) 13; (next => (kernel_rfl)); (next => (kernel_rfl))) | (with_reducible apply X_drawM (id := 15) 12 [] (.cons 12 (.cons 13 (.cons 14 (.cons 15 (.cons 16 .nil .nil) .nil) .nil) .nil) (.cons 13 (.cons 12 (.cons 14 (.cons 15 (.cons 16 .nil .nil) .nil) .nil) .nil) .nil)); (next => (kernel_rfl)); (next => (kernel_rfl))) | (with_reducible apply X_drawC (id := 16) 8; (next => (kernel_rfl)); (next => (kernel_rfl))) | refine X_of _ ?_ | with_reducible (first | exact ⟨_, rfl⟩ | refine And.intro ?_ ?_ | intro _)) <;> try simp -implicitDefEqProofs (maxSteps := 1000000) (disch := first | exact dz1 | fail) only [vcR, vcT, Int.reduceBEq, Int.reduceBNe, Int.reduceEq, Int.reduceNe, Ab.part, Nat.reduceAdd, Nat.reduceMul, Nat.reduceLeDiff, Nat.reduceEqDiff, Nat.reduceBEq, Nat.reduceBNe, reduceCtorEq, ↓reduceIte, implies_true, forall_const, Int.reduceNeg, Int.reduceToNat, Int.reduceLT, Int.reduceLE, Int.reduceAdd, Int.reduceSub, Int.reduceMul, Int.reducePow, Nat.reducePow, true_or, Option.isNone_some, Option.isNone_none, vcXPb, Tryd.f94, List.toList_toArray, arr4_zero, nat4_set1, nat4_setL, nat4_set0, prf_w0,hw0,hev,hs3,hl1,hl2,bne_self_eq_false]))
          refine X_loop (ι := Nat) (fun i => i ≤ n ∧ ∀ j, j < i → stB N G P j = false) (fun i => n - i) [8, 9, 10, 11, 54, 55, 56, 57, 58, 59, 60, 61, 62, 63, 64, 65, 66, 67, 68, 69, 70, 71, 72, 73, 74, 75, 76, 77, 78, 79, 80, 81, 82, 83, 84, 85, 86, 87, 88, 89]
            (fun i => [(8, .s (.v (.int .i64 (i : Nat))))])
            (fun i => []) 0 (shape_of fun i => ?_) (by decide) ?_ ?_
          · simp only [List.length_cons, List.length_nil, List.map_cons, List.map_nil, List.nodup_cons, List.nodup_nil, List.mem_cons, Nat.reduceAdd, Nat.reduceEqDiff, or_false, not_false_eq_true, forall_eq_or_imp, forall_eq, or_self, Nat.reduceLT, Nat.reduceLeDiff, and_self, List.forall_mem_cons, List.not_mem_nil, false_implies, implies_true, and_true, true_and, vcOPb]
          · simp -implicitDefEqProofs (maxSteps := 1000000) (disch := first | exact dz1 | fail) only [vcR, vcT, Int.reduceBEq, Int.reduceBNe, Int.reduceEq, Int.reduceNe, Ab.part, Nat.reduceAdd, Nat.reduceMul, Nat.reduceLeDiff, Nat.reduceEqDiff, Nat.reduceBEq, Nat.reduceBNe, reduceCtorEq, ↓reduceIte, implies_true, forall_const, Int.reduceNeg, Int.reduceToNat, Int.reduceLT, Int.reduceLE, Int.reduceAdd, Int.reduceSub, Int.reduceMul, Int.reducePow, Nat.reducePow, true_or, Option.isNone_some, Option.isNone_none, vcXPb, Tryd.f94, List.toList_toArray, again_eq]
            exact ⟨_, rfl⟩
          · intro i us ⟨hi, hb⟩
            by_cases h : i < n
            · obtain ⟨ad, rfl⟩ := hadr (by omega)
              have hx : ∀ {K : TV → HE → Prop}, xext (ctx0 Tryd.prog w) (some true) 4 ((ad.add (i * 5)).add 0) K = K (.agg (nat4 (P i))) .none := fun {K} => by rw [add_add (hF.facs h).spot]; exact hF.facP h
              have hPi := hP i
              clear hP hE hadr hpr hF0 hsub
              by_cases hp2 : P i < 2
              · have hs := sg_lt0 hp2
                rw [stS_b hae hO' (by rw [hNM]; exact ha1) (by rw [hNM]; exact hR1) h (stB_lt hp2)] at hr
                subst hr
                (repeat' ((first | with_reducible (first | apply XQ_cons | apply XQ_consG | apply XQ_nil | apply XR_cons | apply XR_consG | apply XR_nil | apply XM_cons | apply XM_consG | apply XM_nil | apply cF_pure1 (by assumption) | apply cV_pure1 (by assumption) | apply cM_pure1 (by assumption) | apply cF_ev1 (by assumption) | apply cV_ev1 (by assumption) | apply cM_ev1 (by assumption) | apply cF_pure1 (rcmp_c _ _ bd1 bd1) | apply cV_pure1 (rcmp_c _ _ bd1 bd1) | apply cM_pure1 (rcmp_c _ _ bd1 bd1) | apply cF_pure1 (rdiv_c _ _ bd1 bd1 bd1) | apply cV_pure1 (rdiv_c _ _ bd1 bd1 bd1) | apply cM_pure1 (rdiv_c _ _ bd1 bd1 bd1) | apply cF_pure1 (rmpow_c _ _ _ bd1 bd1 bd1) | apply cV_pure1 (rmpow_c _ _ _ bd1 bd1 bd1) | apply cM_pure1 (rmpow_c _ _ _ bd1 bd1 bd1)) | with_reducible (first | apply X_regRS (id := 1) | apply X_regR (id := 1) | apply X_seqX (x := .seq (.region 1 _ false) _) | apply X_seqX (x := .seq (.seq (.region 1 _ false) _) _) | apply X_regRS (id := 4) | apply X_regR (id := 4) | apply X_seqX (x := .seq (.region 4 _ false) _) | apply X_seqX (x := .seq (.seq (.region 4 _ false) _) _) | apply X_regRS (id := 7) | apply X_regR (id := 7) | apply X_seqX (x := .seq (.region 7 _ false) _) | apply X_seqX (x := .seq (.seq (.region 7 _ false) _) _) | apply X_regRS (id := 13) | apply X_regR (id := 13) | apply X_seqX (x := .seq (.region 13 _ false) _) | apply X_seqX (x := .seq (.seq (.region 13 _ false) _) _)) | (with_reducible apply X_drawC (id := 8) 13; (next => (kernel_rfl)); (next => (kernel_rfl))) | (with_reducible apply X_drawM (id := 15) 12 [] (.cons 12 (.cons 13 (.cons 14 (.cons 15 (.cons 16 .nil .nil) .nil) .nil) .nil) (.cons 13 (.cons 12 (.cons 14 (.cons 15 (.cons 16 .nil .nil) .nil) .nil) .nil) .nil)); (next => (kernel_rfl)); (next => (kernel_rfl))) | (with_reducible apply X_drawC (id := 16) 8; (next => (kernel_rfl)); (next => (kernel_rfl))) | refine X_of _ ?_ | with_reducible (first | exact ⟨_, rfl⟩ | refine And.intro ?_ ?_ | intro _)) <;> try simp -implicitDefEqProofs (maxSteps := 1000000) (disch := first | exact dz1 | fail) only [vcR, vcT, Int.reduceBEq, Int.reduceBNe, Int.reduceEq, Int.reduceNe, Ab.part, Nat.reduceAdd, Nat.reduceMul, Nat.reduceLeDiff, Nat.reduceEqDiff, Nat.reduceBEq, Nat.reduceBNe, reduceCtorEq, ↓reduceIte, implies_true, forall_const, Int.reduceNeg, Int.reduceToNat, Int.reduceLT, Int.reduceLE, Int.reduceAdd, Int.reduceSub, Int.reduceMul, Int.reducePow, Nat.reducePow, true_or, Option.isNone_some, Option.isNone_none, vcXPb, Tryd.f94, List.toList_toArray, arr4_zero, nat4_set1, nat4_setL, nat4_set0, hx,hs]))
              · have hs := sg_nlt0' hp2
                have hq : M1 / P i < 2 ^ 256 := Nat.lt_of_le_of_lt (Nat.div_le_self _ _) hM1l
                have hp0 : 0 < P i := by omega
                have hl3 : litsEq (lits 4 (wd (G ^ (M1 / P i) % N))) (lits 4 (wd 1)) = decide (G ^ (M1 / P i) % N = 1) := litsEq_nat4 hO.mod_lt (by decide)
                have hsb := stB_eq (N := N) (G := G) hp2
                rw [hNM] at hsb
                by_cases hg1 : G ^ (M1 / P i) % N = 1
                · rw [decide_eq_true hg1] at hl3 hsb
                  rw [stS_b hae hO' (by rw [hNM]; exact ha1) (by rw [hNM]; exact hR1) h hsb] at hr
                  subst hr
                  (repeat' ((first | with_reducible (first | apply XQ_cons | apply XQ_consG | apply XQ_nil | apply XR_cons | apply XR_consG | apply XR_nil | apply XM_cons | apply XM_consG | apply XM_nil | apply cF_pure1 (by assumption) | apply cV_pure1 (by assumption) | apply cM_pure1 (by assumption) | apply cF_ev1 (by assumption) | apply cV_ev1 (by assumption) | apply cM_ev1 (by assumption) | apply cF_pure1 (rcmp_c _ _ bd1 bd1) | apply cV_pure1 (rcmp_c _ _ bd1 bd1) | apply cM_pure1 (rcmp_c _ _ bd1 bd1) | apply cF_pure1 (rdiv_c _ _ bd1 bd1 bd1) | apply cV_pure1 (rdiv_c _ _ bd1 bd1 bd1) | apply cM_pure1 (rdiv_c _ _ bd1 bd1 bd1) | apply cF_pure1 (rmpow_c _ _ _ bd1 bd1 bd1) | apply cV_pure1 (rmpow_c _ _ _ bd1 bd1 bd1) | apply cM_pure1 (rmpow_c _ _ _ bd1 bd1 bd1)) | with_reducible (first | apply X_regRS (id := 1) | apply X_regR (id := 1) | apply X_seqX (x := .seq (.region 1 _ false) _) | apply X_seqX (x := .seq (.seq (.region 1 _ false) _) _) | apply X_regRS (id := 4) | apply X_regR (id := 4) | apply X_seqX (x := .seq (.region 4 _ false) _) | apply X_seqX (x := .seq (.seq (.region 4 _ false) _) _) | apply X_regRS (id := 7) | apply X_regR (id := 7) | apply X_seqX (x := .seq (.region 7 _ false) _) | apply X_seqX (x := .seq (.seq (.region 7 _ false) _) _) | apply X_regRS (id := 13) | apply X_regR (id := 13) | apply X_seqX (x := .seq (.region 13 _ false) _) | apply X_seqX (x := .seq (.seq (.region 13 _ false) _) _)) | (with_reducible apply X_drawC (id := 8) 13; (next => (kernel_rfl)); (next => (kernel_rfl))) | (with_reducible apply X_drawM (id := 15) 12 [] (.cons 12 (.cons 13 (.cons 14 (.cons 15 (.cons 16 .nil .nil) .nil) .nil) .nil) (.cons 13 (.cons 12 (.cons 14 (.cons 15 (.cons 16 .nil .nil) .nil) .nil) .nil) .nil)); (next => (kernel_rfl)); (next => (kernel_rfl))) | (with_reducible apply X_drawC (id := 16) 8; (next => (kernel_rfl)); (next => (kernel_rfl))) | refine X_of _ ?_ | with_reducible (first | exact ⟨_, rfl⟩ | refine And.intro ?_ ?_ | intro _)) <;> try simp -implicitDefEqProofs (maxSteps := 1000000) (disch := first | exact dz1 | fail) only [vcR, vcT, Int.reduceBEq, Int.reduceBNe, Int.reduceEq, Int.reduceNe, Ab.part, Nat.reduceAdd, Nat.reduceMul, Nat.reduceLeDiff, Nat.reduceEqDiff, Nat.reduceBEq, Nat.reduceBNe, reduceCtorEq, ↓reduceIte, implies_true, forall_const, Int.reduceNeg, Int.reduceToNat, Int.reduceLT, Int.reduceLE, Int.reduceAdd, Int.reduceSub, Int.reduceMul, Int.reducePow, Nat.reducePow, true_or, Option.isNone_some, Option.isNone_none, vcXPb, Tryd.f94, List.toList_toArray, arr4_zero, nat4_set1, nat4_setL, nat4_set0, hx,hs,hl3]))
                · rw [decide_eq_false hg1] at hl3 hsb
                  have hb' : ∀ j, j < i + 1 → stB N G P j = false := fun j hj => by
                    by_cases hji : j = i
                    · subst hji; exact hsb
                    · exact hb j (by omega)
                  clear hr hb hsb
                  (repeat' ((first | with_reducible (first | apply XQ_cons | apply XQ_consG | apply XQ_nil | apply XR_cons | apply XR_consG | apply XR_nil | apply XM_cons | apply XM_consG | apply XM_nil | apply cF_pure1 (by assumption) | apply cV_pure1 (by assumption) | apply cM_pure1 (by assumption) | apply cF_ev1 (by assumption) | apply cV_ev1 (by assumption) | apply cM_ev1 (by assumption) | apply cF_pure1 (rcmp_c _ _ bd1 bd1) | apply cV_pure1 (rcmp_c _ _ bd1 bd1) | apply cM_pure1 (rcmp_c _ _ bd1 bd1) | apply cF_pure1 (rdiv_c _ _ bd1 bd1 bd1) | apply cV_pure1 (rdiv_c _ _ bd1 bd1 bd1) | apply cM_pure1 (rdiv_c _ _ bd1 bd1 bd1) | apply cF_pure1 (rmpow_c _ _ _ bd1 bd1 bd1) | apply cV_pure1 (rmpow_c _ _ _ bd1 bd1 bd1) | apply cM_pure1 (rmpow_c _ _ _ bd1 bd1 bd1)) | with_reducible (first | apply X_regRS (id := 1) | apply X_regR (id := 1) | apply X_seqX (x := .seq (.region 1 _ false) _) | apply X_seqX (x := .seq (.seq (.region 1 _ false) _) _) | apply X_regRS (id := 4) | apply X_regR (id := 4) | apply X_seqX (x := .seq (.region 4 _ false) _) | apply X_seqX (x := .seq (.seq (.region 4 _ false) _) _) | apply X_regRS (id := 7) | apply X_regR (id := 7) | apply X_seqX (x := .seq (.region 7 _ false) _) | apply X_seqX (x := .seq (.seq (.region 7 _ false) _) _) | apply X_regRS (id := 13) | apply X_regR (id := 13) | apply X_seqX (x := .seq (.region 13 _ false) _) | apply X_seqX (x := .seq (.seq (.region 13 _ false) _) _)) | (with_reducible apply X_drawC (id := 8) 13; (next => (kernel_rfl)); (next => (kernel_rfl))) | (with_reducible apply X_drawM (id := 15) 12 [] (.cons 12 (.cons 13 (.cons 14 (.cons 15 (.cons 16 .nil .nil) .nil) .nil) .nil) (.cons 13 (.cons 12 (.cons 14 (.cons 15 (.cons 16 .nil .nil) .nil) .nil) .nil) .nil)); (next => (kernel_rfl)); (next => (kernel_rfl))) | (with_reducible apply X_drawC (id := 16) 8; (next => (kernel_rfl)); (next => (kernel_rfl))) | refine X_of _ ?_ | with_reducible (first | exact ⟨_, rfl⟩ | refine And.intro ?_ ?_ | intro _)) <;> try simp -implicitDefEqProofs (maxSteps := 1000000) (disch := first | exact dz1 | fail) only [vcR, vcT, Int.reduceBEq, Int.reduceBNe, Int.reduceEq, Int.reduceNe, Ab.part, Nat.reduceAdd, Nat.reduceMul, Nat.reduceLeDiff, Nat.reduceEqDiff, Nat.reduceBEq, Nat.reduceBNe, reduceCtorEq, ↓reduceIte, implies_true, forall_const, Int.reduceNeg, Int.reduceToNat, Int.reduceLT, Int.reduceLE, Int.reduceAdd, Int.reduceSub, Int.reduceMul, Int.reducePow, Nat.reducePow, true_or, Option.isNone_some, Option.isNone_none, vcXPb, Tryd.f94, List.toList_toArray, arr4_zero, nat4_set1, nat4_setL, nat4_set0, hx,hs,hl3]))
                  all_goals (refine ⟨i + 1, by omega, ?_⟩; simp -implicitDefEqProofs (maxSteps := 1000000) (disch := first | exact dz1 | fail) only [vcR, vcT, Int.reduceBEq, Int.reduceBNe, Int.reduceEq, Int.reduceNe, Ab.part, Nat.reduceAdd, Nat.reduceMul, Nat.reduceLeDiff, Nat.reduceEqDiff, Nat.reduceBEq, Nat.reduceBNe, reduceCtorEq, ↓reduceIte, implies_true, forall_const, Int.reduceNeg, Int.reduceToNat, Int.reduceLT, Int.reduceLE, Int.reduceAdd, Int.reduceSub, Int.reduceMul, Int.reducePow, Nat.reducePow, true_or, Option.isNone_some, Option.isNone_none, vcXPb, Tryd.f94, List.toList_toArray, again_eq]; first | exact ⟨hb', _, rfl⟩ | (trace_state; done))
            · have : i = n := by omega
              subst this
              rw [stS_o hae hO' (by rw [hNM]; exact ha1) (by rw [hNM]; exact hR1) hb] at hr
              subst hr
              (repeat' ((first | with_reducible (first | apply XQ_cons | apply XQ_consG | apply XQ_nil | apply XR_cons | apply XR_consG | apply XR_nil | apply XM_cons | apply XM_consG | apply XM_nil | apply cF_pure1 (by assumption) | apply cV_pure1 (by assumption) | apply cM_pure1 (by assumption) | apply cF_ev1 (by assumption) | apply cV_ev1 (by assumption) | apply cM_ev1 (by assumption) | apply cF_pure1 (rcmp_c _ _ bd1 bd1) | apply cV_pure1 (rcmp_c _ _ bd1 bd1) | apply cM_pure1 (rcmp_c _ _ bd1 bd1) | apply cF_pure1 (rdiv_c _ _ bd1 bd1 bd1) | apply cV_pure1 (rdiv_c _ _ bd1 bd1 bd1) | apply cM_pure1 (rdiv_c _ _ bd1 bd1 bd1) | apply cF_pure1 (rmpow_c _ _ _ bd1 bd1 bd1) | apply cV_pure1 (rmpow_c _ _ _ bd1 bd1 bd1) | apply cM_pure1 (rmpow_c _ _ _ bd1 bd1 bd1)) | with_reducible (first | apply X_regRS (id := 1) | apply X_regR (id := 1) | apply X_seqX (x := .seq (.region 1 _ false) _) | apply X_seqX (x := .seq (.seq (.region 1 _ false) _) _) | apply X_regRS (id := 4) | apply X_regR (id := 4) | apply X_seqX (x := .seq (.region 4 _ false) _) | apply X_seqX (x := .seq (.seq (.region 4 _ false) _) _) | apply X_regRS (id := 7) | apply X_regR (id := 7) | apply X_seqX (x := .seq (.region 7 _ false) _) | apply X_seqX (x := .seq (.seq (.region 7 _ false) _) _) | apply X_regRS (id := 13) | apply X_regR (id := 13) | apply X_seqX (x := .seq (.region 13 _ false) _) | apply X_seqX (x := .seq (.seq (.region 13 _ false) _) _)) | (with_reducible apply X_drawC (id := 8) 13; (next => (kernel_rfl)); (next => (kernel_rfl))) | (with_reducible apply X_drawM (id := 15) 12 [] (.cons 12 (.cons 13 (.cons 14 (.cons 15 (.cons 16 .nil .nil) .nil) .nil) .nil) (.cons 13 (.cons 12 (.cons 14 (.cons 15 (.cons 16 .nil .nil) .nil) .nil) .nil) .nil)); (next => (kernel_rfl)); (next => (kernel_rfl))) | (with_reducible apply X_drawC (id := 16) 8; (next => (kernel_rfl)); (next => (kernel_rfl))) | refine X_of _ ?_ | with_reducible (first | exact ⟨_, rfl⟩ | refine And.intro ?_ ?_ | intro _)) <;> try simp -implicitDefEqProofs (maxSteps := 1000000) (disch := first | exact dz1 | fail) only [vcR, vcT, Int.reduceBEq, Int.reduceBNe, Int.reduceEq, Int.reduceNe, Ab.part, Nat.reduceAdd, Nat.reduceMul, Nat.reduceLeDiff, Nat.reduceEqDiff, Nat.reduceBEq, Nat.reduceBNe, reduceCtorEq, ↓reduceIte, implies_true, forall_const, Int.reduceNeg, Int.reduceToNat, Int.reduceLT, Int.reduceLE, Int.reduceAdd, Int.reduceSub, Int.reduceMul, Int.reducePow, Nat.reducePow, true_or, Option.isNone_some, Option.isNone_none, vcXPb, Tryd.f94, List.toList_toArray, arr4_zero, nat4_set1, nat4_setL, nat4_set0]))
        · rw [decide_eq_false hR1] at hl2
          rw [stS_p hae hO' (.inr (by rw [hNM]; exact hR1))] at hr
          subst hr
          (repeat' ((first | with_reducible (first | apply XQ_cons | apply XQ_consG | apply XQ_nil | apply XR_cons | apply XR_consG | apply XR_nil | apply XM_cons | apply XM_consG | apply XM_nil | apply cF_pure1 (by assumption) | apply cV_pure1 (by assumption) | apply cM_pure1 (by assumption) | apply cF_ev1 (by assumption) | apply cV_ev1 (by assumption) | apply cM_ev1 (by assumption) | apply cF_pure1 (rcmp_c _ _ bd1 bd1) | apply cV_pure1 (rcmp_c _ _ bd1 bd1) | apply cM_pure1 (rcmp_c _ _ bd1 bd1) | apply cF_pure1 (rdiv_c _ _ bd1 bd1 bd1) | apply cV_pure1 (rdiv_c _ _ bd1 bd1 bd1) | apply cM_pure1 (rdiv_c _ _ bd1 bd1 bd1) | apply cF_pure1 (rmpow_c _ _ _ bd1 bd1 bd1) | apply cV_pure1 (rmpow_c _ _ _ bd1 bd1 bd1) | apply cM_pure1 (rmpow_c _ _ _ bd1 bd1 bd1)) | with_reducible (first | apply X_regRS (id := 1) | apply X_regR (id := 1) | apply X_seqX (x := .seq (.region 1 _ false) _) | apply X_seqX (x := .seq (.seq (.region 1 _ false) _) _) | apply X_regRS (id := 4) | apply X_regR (id := 4) | apply X_seqX (x := .seq (.region 4 _ false) _) | apply X_seqX (x := .seq (.seq (.region 4 _ false) _) _) | apply X_regRS (id := 7) | apply X_regR (id := 7) | apply X_seqX (x := .seq (.region 7 _ false) _) | apply X_seqX (x := .seq (.seq (.region 7 _ false) _) _) | apply X_regRS (id := 13) | apply X_regR (id := 13) | apply X_seqX (x := .seq (.region 13 _ false) _) | apply X_seqX (x := .seq (.seq (.region 13 _ false) _) _)) | (with_reducible apply X_drawC (id := 8) 13; (next => (kernel_rfl)); (next => (kernel_rfl))) | (with_reducible apply X_drawM (id := 15) 12 [] (.cons 12 (.cons 13 (.cons 14 (.cons 15 (.cons 16 .nil .nil) .nil) .nil) .nil) (.cons 13 (.cons 12 (.cons 14 (.cons 15 (.cons 16 .nil .nil) .nil) .nil) .nil) .nil)); (next => (kernel_rfl)); (next => (kernel_rfl))) | (with_reducible apply X_drawC (id := 16) 8; (next => (kernel_rfl)); (next => (kernel_rfl))) | refine X_of _ ?_ | with_reducible (first | exact ⟨_, rfl⟩ | refine And.intro ?_ ?_ | intro _)) <;> try simp -implicitDefEqProofs (maxSteps := 1000000) (disch := first | exact dz1 | fail) only [vcR, vcT, Int.reduceBEq, Int.reduceBNe, Int.reduceEq, Int.reduceNe, Ab.part, Nat.reduceAdd, Nat.reduceMul, Nat.reduceLeDiff, Nat.reduceEqDiff, Nat.reduceBEq, Nat.reduceBNe, reduceCtorEq, ↓reduceIte, implies_true, forall_const, Int.reduceNeg, Int.reduceToNat, Int.reduceLT, Int.reduceLE, Int.reduceAdd, Int.reduceSub, Int.reduceMul, Int.reducePow, Nat.reducePow, true_or, Option.isNone_some, Option.isNone_none, vcXPb, Tryd.f94, List.toList_toArray, arr4_zero, nat4_set1, nat4_setL, nat4_set0, prf_w0,hw0,hev,hs3,hl1,hl2,bne_self_eq_false]))
      · rw [decide_eq_false ha1] at hl1
        rw [stS_p hae hO' (.inl (by rw [hNM]; exact ha1))] at hr
        subst hr
        (repeat' ((first | with_reducible (first | apply XQ_cons | apply XQ_consG | apply XQ_nil | apply XR_cons | apply XR_consG | apply XR_nil | apply XM_cons | apply XM_consG | apply XM_nil | apply cF_pure1 (by assumption) | apply cV_pure1 (by assumption) | apply cM_pure1 (by assumption) | apply cF_ev1 (by assumption) | apply cV_ev1 (by assumption) | apply cM_ev1 (by assumption) | apply cF_pure1 (rcmp_c _ _ bd1 bd1) | apply cV_pure1 (rcmp_c _ _ bd1 bd1) | apply cM_pure1 (rcmp_c _ _ bd1 bd1) | apply cF_pure1 (rdiv_c _ _ bd1 bd1 bd1) | apply cV_pure1 (rdiv_c _ _ bd1 bd1 bd1) | apply cM_pure1 (rdiv_c _ _ bd1 bd1 bd1) | apply cF_pure1 (rmpow_c _ _ _ bd1 bd1 bd1) | apply cV_pure1 (rmpow_c _ _ _ bd1 bd1 bd1) | apply cM_pure1 (rmpow_c _ _ _ bd1 bd1 bd1)) | with_reducible (first | apply X_regRS (id := 1) | apply X_regR (id := 1) | apply X_seqX (x := .seq (.region 1 _ false) _) | apply X_seqX (x := .seq (.seq (.region 1 _ false) _) _) | apply X_regRS (id := 4) | apply X_regR (id := 4) | apply X_seqX (x := .seq (.region 4 _ false) _) | apply X_seqX (x := .seq (.seq (.region 4 _ false) _) _) | apply X_regRS (id := 7) | apply X_regR (id := 7) | apply X_seqX (x := .seq (.region 7 _ false) _) | apply X_seqX (x := .seq (.seq (.region 7 _ false) _) _) | apply X_regRS (id := 13) | apply X_regR (id := 13) | apply X_seqX (x := .seq (.region 13 _ false) _) | apply X_seqX (x := .seq (.seq (.region 13 _ false) _) _)) | (with_reducible apply X_drawC (id := 8) 13; (next => (kernel_rfl)); (next => (kernel_rfl))) | (with_reducible apply X_drawM (id := 15) 12 [] (.cons 12 (.cons 13 (.cons 14 (.cons 15 (.cons 16 .nil .nil) .nil) .nil) .nil) (.cons 13 (.cons 12 (.cons 14 (.cons 15 (.cons 16 .nil .nil) .nil) .nil) .nil) .nil)); (next => (kernel_rfl)); (next => (kernel_rfl))) | (with_reducible apply X_drawC (id := 16) 8; (next => (kernel_rfl)); (next => (kernel_rfl))) | refine X_of _ ?_ | with_reducible (first | exact ⟨_, rfl⟩ | refine And.intro ?_ ?_ | intro _)) <;> try simp -implicitDefEqProofs (maxSteps := 1000000) (disch := first | exact dz1 | fail) only [vcR, vcT, Int.reduceBEq, Int.reduceBNe, Int.reduceEq, Int.reduceNe, Ab.part, Nat.reduceAdd, Nat.reduceMul, Nat.reduceLeDiff, Nat.reduceEqDiff, Nat.reduceBEq, Nat.reduceBNe, reduceCtorEq, ↓reduceIte, implies_true, forall_const, Int.reduceNeg, Int.reduceToNat, Int.reduceLT, Int.reduceLE, Int.reduceAdd, Int.reduceSub, Int.reduceMul, Int.reducePow, Nat.reducePow, true_or, Option.isNone_some, Option.isNone_none, vcXPb, Tryd.f94, List.toList_toArray, arr4_zero, nat4_set1, nat4_setL, nat4_set0, prf_w0,hw0,hev,hs3,hl1,bne_self_eq_false]))
    · rw [stS_m hae (fun h => hO ((odd_iff' hN).2 h))] at hr
      subst hr
      by_cases hev : N % 2 = 1
      · have hev' : (w0 % 2 == 0) = false := by
          rw [beq_eq_false_iff_ne]
          omega
        have hlt : N < 3 := by
          refine Nat.lt_of_not_le fun h => hO ((odd_iff' hN).2 ⟨hev, h⟩)
        have hs3 := sg_lt0 hlt
        (repeat' ((first | with_reducible (first | apply XQ_cons | apply XQ_consG | apply XQ_nil | apply XR_cons | apply XR_consG | apply XR_nil | apply XM_cons | apply XM_consG | apply XM_nil | apply cF_pure1 (by assumption) | apply cV_pure1 (by assumption) | apply cM_pure1 (by assumption) | apply cF_ev1 (by assumption) | apply cV_ev1 (by assumption) | apply cM_ev1 (by assumption) | apply cF_pure1 (rcmp_c _ _ bd1 bd1) | apply cV_pure1 (rcmp_c _ _ bd1 bd1) | apply cM_pure1 (rcmp_c _ _ bd1 bd1) | apply cF_pure1 (rdiv_c _ _ bd1 bd1 bd1) | apply cV_pure1 (rdiv_c _ _ bd1 bd1 bd1) | apply cM_pure1 (rdiv_c _ _ bd1 bd1 bd1) | apply cF_pure1 (rmpow_c _ _ _ bd1 bd1 bd1) | apply cV_pure1 (rmpow_c _ _ _ bd1 bd1 bd1) | apply cM_pure1 (rmpow_c _ _ _ bd1 bd1 bd1)) | with_reducible (first | apply X_regRS (id := 1) | apply X_regR (id := 1) | apply X_seqX (x := .seq (.region 1 _ false) _) | apply X_seqX (x := .seq (.seq (.region 1 _ false) _) _) | apply X_regRS (id := 4) | apply X_regR (id := 4) | apply X_seqX (x := .seq (.region 4 _ false) _) | apply X_seqX (x := .seq (.seq (.region 4 _ false) _) _) | apply X_regRS (id := 7) | apply X_regR (id := 7) | apply X_seqX (x := .seq (.region 7 _ false) _) | apply X_seqX (x := .seq (.seq (.region 7 _ false) _) _) | apply X_regRS (id := 13) | apply X_regR (id := 13) | apply X_seqX (x := .seq (.region 13 _ false) _) | apply X_seqX (x := .seq (.seq (.region 13 _ false) _) _)) | (with_reducible apply X_drawC (id := 8) 13; (next => (kernel_rfl)); (next => (kernel_rfl))) | (with_reducible apply X_drawM (id := 15) 12 [] (.cons 12 (.cons 13 (.cons 14 (.cons 15 (.cons 16 .nil .nil) .nil) .nil) .nil) (.cons 13 (.cons 12 (.cons 14 (.cons 15 (.cons 16 .nil .nil) .nil) .nil) .nil) .nil)); (next => (kernel_rfl)); (next => (kernel_rfl))) | (with_reducible apply X_drawC (id := 16) 8; (next => (kernel_rfl)); (next => (kernel_rfl))) | refine X_of _ ?_ | with_reducible (first | exact ⟨_, rfl⟩ | refine And.intro ?_ ?_ | intro _)) <;> try simp -implicitDefEqProofs (maxSteps := 1000000) (disch := first | exact dz1 | fail) only [vcR, vcT, Int.reduceBEq, Int.reduceBNe, Int.reduceEq, Int.reduceNe, Ab.part, Nat.reduceAdd, Nat.reduceMul, Nat.reduceLeDiff, Nat.reduceEqDiff, Nat.reduceBEq, Nat.reduceBNe, reduceCtorEq, ↓reduceIte, implies_true, forall_const, Int.reduceNeg, Int.reduceToNat, Int.reduceLT, Int.reduceLE, Int.reduceAdd, Int.reduceSub, Int.reduceMul, Int.reducePow, Nat.reducePow, true_or, Option.isNone_some, Option.isNone_none, vcXPb, Tryd.f94, List.toList_toArray, arr4_zero, nat4_set1, nat4_setL, nat4_set0, prf_w0,hw0,hev',hs3,bne_self_eq_false]))
      · have hev' : (w0 % 2 == 0) = true := by
          rw [beq_iff_eq]
          omega
        (repeat' ((first | with_reducible (first | apply XQ_cons | apply XQ_consG | apply XQ_nil | apply XR_cons | apply XR_consG | apply XR_nil | apply XM_cons | apply XM_consG | apply XM_nil | apply cF_pure1 (by assumption) | apply cV_pure1 (by assumption) | apply cM_pure1 (by assumption) | apply cF_ev1 (by assumption) | apply cV_ev1 (by assumption) | apply cM_ev1 (by assumption) | apply cF_pure1 (rcmp_c _ _ bd1 bd1) | apply cV_pure1 (rcmp_c _ _ bd1 bd1) | apply cM_pure1 (rcmp_c _ _ bd1 bd1) | apply cF_pure1 (rdiv_c _ _ bd1 bd1 bd1) | apply cV_pure1 (rdiv_c _ _ bd1 bd1 bd1) | apply cM_pure1 (rdiv_c _ _ bd1 bd1 bd1) | apply cF_pure1 (rmpow_c _ _ _ bd1 bd1 bd1) | apply cV_pure1 (rmpow_c _ _ _ bd1 bd1 bd1) | apply cM_pure1 (rmpow_c _ _ _ bd1 bd1 bd1)) | with_reducible (first | apply X_regRS (id := 1) | apply X_regR (id := 1) | apply X_seqX (x := .seq (.region 1 _ false) _) | apply X_seqX (x := .seq (.seq (.region 1 _ false) _) _) | apply X_regRS (id := 4) | apply X_regR (id := 4) | apply X_seqX (x := .seq (.region 4 _ false) _) | apply X_seqX (x := .seq (.seq (.region 4 _ false) _) _) | apply X_regRS (id := 7) | apply X_regR (id := 7) | apply X_seqX (x := .seq (.region 7 _ false) _) | apply X_seqX (x := .seq (.seq (.region 7 _ false) _) _) | apply X_regRS (id := 13) | apply X_regR (id := 13) | apply X_seqX (x := .seq (.region 13 _ false) _) | apply X_seqX (x := .seq (.seq (.region 13 _ false) _) _)) | (with_reducible apply X_drawC (id := 8) 13; (next => (kernel_rfl)); (next => (kernel_rfl))) | (with_reducible apply X_drawM (id := 15) 12 [] (.cons 12 (.cons 13 (.cons 14 (.cons 15 (.cons 16 .nil .nil) .nil) .nil) .nil) (.cons 13 (.cons 12 (.cons 14 (.cons 15 (.cons 16 .nil .nil) .nil) .nil) .nil) .nil)); (next => (kernel_rfl)); (next => (kernel_rfl))) | (with_reducible apply X_drawC (id := 16) 8; (next => (kernel_rfl)); (next => (kernel_rfl))) | refine X_of _ ?_ | with_reducible (first | exact ⟨_, rfl⟩ | refine And.intro ?_ ?_ | intro _)) <;> try simp -implicitDefEqProofs (maxSteps := 1000000) (disch := first | exact dz1 | fail) only [vcR, vcT, Int.reduceBEq, Int.reduceBNe, Int.reduceEq, Int.reduceNe, Ab.part, Nat.reduceAdd, Nat.reduceMul, Nat.reduceLeDiff, Nat.reduceEqDiff, Nat.reduceBEq, Nat.reduceBNe, reduceCtorEq, ↓reduceIte, implies_true, forall_const, Int.reduceNeg, Int.reduceToNat, Int.reduceLT, Int.reduceLE, Int.reduceAdd, Int.reduceSub, Int.reduceMul, Int.reducePow, Nat.reducePow, true_or, Option.isNone_some, Option.isNone_none, vcXPb, Tryd.f94, List.toList_toArray, arr4_zero, nat4_set1, nat4_setL, nat4_set0, prf_w0,hw0,hev',bne_self_eq_false]))
end Go.Proofs.YtdmcknmjdlghgaaDoor
namespace Go.Proofs.YtdmcknmjdlghgaaDoor
open Go Go.Ab
set_option linter.unusedSimpArgs false
set_option linter.unusedVariables false
set_option linter.defProp false
set_option maxHeartbeats 20000000
set_option maxRecDepth 100000


theorem rknown_m (x : Option Addr) (m c : Nat) (l : Nat → Pf) (i n : Nat) (hl : PfOk l) (hm : m < 9223372036854775808) (hi : i ≤ m) (hn : n < 2 ^ 256) :
    PureM Tryd.prog 83 [.s (.v (.slice x m c)), .s (.v (.int .i64 (i : Int))), .agg (nat4 n)] (fun w => prfs x m l w) (.s (.v (.bool (knS l i n)))) := by
  obtain ⟨r, hr⟩ : ∃ r, knS l i n = r := ⟨_, rfl⟩
  rw [hr]
  (refine pureM_of Tryd.func83 rfl (by simp only [List.length_cons, List.length_nil, List.map_cons, List.map_nil, List.nodup_cons, List.nodup_nil, List.mem_cons, Nat.reduceAdd, Nat.reduceEqDiff, or_false, not_false_eq_true, forall_eq_or_imp, forall_eq, or_self, Nat.reduceLT, Nat.reduceLeDiff, and_self, List.forall_mem_cons, List.not_mem_nil, false_implies, implies_true, and_true, true_and, vcOPb]) (by simp only [List.length_cons, List.length_nil, List.map_cons, List.map_nil, List.nodup_cons, List.nodup_nil, List.mem_cons, Nat.reduceAdd, Nat.reduceEqDiff, or_false, not_false_eq_true, forall_eq_or_imp, forall_eq, or_self, Nat.reduceLT, Nat.reduceLeDiff, and_self, List.forall_mem_cons, List.not_mem_nil, false_implies, implies_true, and_true, true_and, vcOPb]) fun w hpre => ?_; simp only [List.length_cons, List.length_nil, Tryd.ntmps83, Nat.reduceAdd, Nat.reduceSub, List.replicate_succ, List.replicate_zero, List.cons_append, List.nil_append])
  have hP0 := prfs_kn (P0 := Tryd.prog) hpre
  have hadr : m ≠ 0 → ∃ ad, x = some ad := fun h => by
    rcases hpre.1 with h0 | ⟨ad, h0, _⟩
    · omega
    · exact ⟨ad, h0⟩
  clear hpre
  have hl0 : litsEq (lits 4 (wd n)) (lits 4 (wd 2)) = decide (n = 2) := litsEq_nat4 hn (by decide)
  by_cases h2 : n = 2
  · rw [decide_eq_true h2] at hl0
    have : r = true := by rw [← hr, h2]; rfl
    subst this
    (repeat' ((first | with_reducible (first | apply XQ_cons | apply XQ_consG | apply XQ_nil | apply XR_cons | apply XR_consG | apply XR_nil | apply cF_pure1 (by assumption) | apply cV_pure1 (by assumption) | apply cF_ev1 (by assumption) | apply cV_ev1 (by assumption)) | (with_reducible apply X_drawC (id := 6) 7; (next => (kernel_rfl)); (next => (kernel_rfl))) | refine X_of _ ?_ | with_reducible (first | exact ⟨_, rfl⟩ | refine And.intro ?_ ?_ | intro _)) <;> try simp -implicitDefEqProofs (maxSteps := 1000000) (disch := first | exact dz1 | fail) only [vcR, vcT, Int.reduceBEq, Int.reduceBNe, Int.reduceEq, Int.reduceNe, Ab.part, Nat.reduceAdd, Nat.reduceMul, Nat.reduceLeDiff, Nat.reduceEqDiff, Nat.reduceBEq, Nat.reduceBNe, reduceCtorEq, ↓reduceIte, implies_true, forall_const, Int.reduceNeg, Int.reduceToNat, Int.reduceLT, Int.reduceLE, Int.reduceAdd, Int.reduceSub, Int.reduceMul, Int.reducePow, Nat.reducePow, true_or, Option.isNone_some, Option.isNone_none, vcXPb, Tryd.f83, List.toList_toArray, arr4_zero, nat4_set1, nat4_setL, nat4_set0, hl0]))
  · rw [decide_eq_false h2] at hl0
    have h2' : (n == 2) = false := by rw [beq_eq_false_iff_ne]; exact h2
    (repeat' ((first | with_reducible (first | apply XQ_cons | apply XQ_consG | apply XQ_nil | apply XR_cons | apply XR_consG | apply XR_nil | apply cF_pure1 (by assumption) | apply cV_pure1 (by assumption) | apply cF_ev1 (by assumption) | apply cV_ev1 (by assumption)) | (with_reducible apply X_drawC (id := 6) 7; (next => (kernel_rfl)); (next => (kernel_rfl))) | refine X_of _ ?_ | with_reducible (first | exact ⟨_, rfl⟩ | refine And.intro ?_ ?_ | intro _)) <;> try simp -implicitDefEqProofs (maxSteps := 1000000) (disch := first | exact dz1 | fail) only [vcR, vcT, Int.reduceBEq, Int.reduceBNe, Int.reduceEq, Int.reduceNe, Ab.part, Nat.reduceAdd, Nat.reduceMul, Nat.reduceLeDiff, Nat.reduceEqDiff, Nat.reduceBEq, Nat.reduceBNe, reduceCtorEq, ↓reduceIte, implies_true, forall_const, Int.reduceNeg, Int.reduceToNat, Int.reduceLT, Int.reduceLE, Int.reduceAdd, Int.reduceSub, Int.reduceMul, Int.reducePow, Nat.reducePow, true_or, Option.isNone_some, Option.isNone_none, vcXPb, Tryd.f83, List.toList_toArray, arr4_zero, nat4_set1, nat4_setL, nat4_set0, hl0]))
    refine X_loop (ι := Nat) (fun k => k ≤ i ∧ ∀ j, j < k → ((l j).N == n) = false) (fun k => i - k) [7, 11, 12, 13, 14, 15, 16, 17, 18, 19, 20, 21, 22]
      (fun k => [(7, .s (.v (.int .i64 (k : Nat))))])
      (fun k => []) 0 (shape_of fun k => ?_) (by decide) ?_ ?_
    · simp only [List.length_cons, List.length_nil, List.map_cons, List.map_nil, List.nodup_cons, List.nodup_nil, List.mem_cons, Nat.reduceAdd, Nat.reduceEqDiff, or_false, not_false_eq_true, forall_eq_or_imp, forall_eq, or_self, Nat.reduceLT, Nat.reduceLeDiff, and_self, List.forall_mem_cons, List.not_mem_nil, false_implies, implies_true, and_true, true_and, vcOPb]
    · simp -implicitDefEqProofs (maxSteps := 1000000) (disch := first | exact dz1 | fail) only [vcR, vcT, Int.reduceBEq, Int.reduceBNe, Int.reduceEq, Int.reduceNe, Ab.part, Nat.reduceAdd, Nat.reduceMul, Nat.reduceLeDiff, Nat.reduceEqDiff, Nat.reduceBEq, Nat.reduceBNe, reduceCtorEq, ↓reduceIte, implies_true, forall_const, Int.reduceNeg, Int.reduceToNat, Int.reduceLT, Int.reduceLE, Int.reduceAdd, Int.reduceSub, Int.reduceMul, Int.reducePow, Nat.reducePow, true_or, Option.isNone_some, Option.isNone_none, vcXPb, Tryd.f83, List.toList_toArray, again_eq]
      exact ⟨_, rfl⟩
    · intro k us ⟨hk, hb⟩
      by_cases h : k < i
      · obtain ⟨ad, rfl⟩ := hadr (by omega)
        have hx : ∀ {K : TV → HE → Prop}, xext (ctx0 Tryd.prog w) (some true) 4 ((ad.add (k * 9)).add 0) K = K (.agg (nat4 (l k).N)) .none := fun {K} => by rw [add_add (hP0.prfs (i := k) (by omega)).spot]; exact hP0.prfN (by omega)
        have hNk := hl.N k
        have hl1 : litsEq (lits 4 (wd (l k).N)) (lits 4 (wd n)) = ((l k).N == n) := litsEq_nat4 hNk hn
        cases hz : ((l k).N == n) with
        | true =>
          rw [hz] at hl1
          have : r = true := by rw [← hr]; unfold knS; rw [anyB_iff.2 ⟨k, h, hz⟩, Bool.or_true]
          subst this
          (repeat' ((first | with_reducible (first | apply XQ_cons | apply XQ_consG | apply XQ_nil | apply XR_cons | apply XR_consG | apply XR_nil | apply cF_pure1 (by assumption) | apply cV_pure1 (by assumption) | apply cF_ev1 (by assumption) | apply cV_ev1 (by assumption)) | (with_reducible apply X_drawC (id := 6) 7; (next => (kernel_rfl)); (next => (kernel_rfl))) | refine X_of _ ?_ | with_reducible (first | exact ⟨_, rfl⟩ | refine And.intro ?_ ?_ | intro _)) <;> try simp -implicitDefEqProofs (maxSteps := 1000000) (disch := first | exact dz1 | fail) only [vcR, vcT, Int.reduceBEq, Int.reduceBNe, Int.reduceEq, Int.reduceNe, Ab.part, Nat.reduceAdd, Nat.reduceMul, Nat.reduceLeDiff, Nat.reduceEqDiff, Nat.reduceBEq, Nat.reduceBNe, reduceCtorEq, ↓reduceIte, implies_true, forall_const, Int.reduceNeg, Int.reduceToNat, Int.reduceLT, Int.reduceLE, Int.reduceAdd, Int.reduceSub, Int.reduceMul, Int.reducePow, Nat.reducePow, true_or, Option.isNone_some, Option.isNone_none, vcXPb, Tryd.f83, List.toList_toArray, arr4_zero, nat4_set1, nat4_setL, nat4_set0, hx,hl1]))
        | false =>
          rw [hz] at hl1
          (repeat' ((first | with_reducible (first | apply XQ_cons | apply XQ_consG | apply XQ_nil | apply XR_cons | apply XR_consG | apply XR_nil | apply cF_pure1 (by assumption) | apply cV_pure1 (by assumption) | apply cF_ev1 (by assumption) | apply cV_ev1 (by assumption)) | (with_reducible apply X_drawC (id := 6) 7; (next => (kernel_rfl)); (next => (kernel_rfl))) | refine X_of _ ?_ | with_reducible (first | exact ⟨_, rfl⟩ | refine And.intro ?_ ?_ | intro _)) <;> try simp -implicitDefEqProofs (maxSteps := 1000000) (disch := first | exact dz1 | fail) only [vcR, vcT, Int.reduceBEq, Int.reduceBNe, Int.reduceEq, Int.reduceNe, Ab.part, Nat.reduceAdd, Nat.reduceMul, Nat.reduceLeDiff, Nat.reduceEqDiff, Nat.reduceBEq, Nat.reduceBNe, reduceCtorEq, ↓reduceIte, implies_true, forall_const, Int.reduceNeg, Int.reduceToNat, Int.reduceLT, Int.reduceLE, Int.reduceAdd, Int.reduceSub, Int.reduceMul, Int.reducePow, Nat.reducePow, true_or, Option.isNone_some, Option.isNone_none, vcXPb, Tryd.f83, List.toList_toArray, arr4_zero, nat4_set1, nat4_setL, nat4_set0, hx,hl1]))
          refine ⟨k + 1, by omega, ?_⟩
          simp -implicitDefEqProofs (maxSteps := 1000000) (disch := first | exact dz1 | fail) only [vcR, vcT, Int.reduceBEq, Int.reduceBNe, Int.reduceEq, Int.reduceNe, Ab.part, Nat.reduceAdd, Nat.reduceMul, Nat.reduceLeDiff, Nat.reduceEqDiff, Nat.reduceBEq, Nat.reduceBNe, reduceCtorEq, ↓reduceIte, implies_true, forall_const, Int.reduceNeg, Int.reduceToNat, Int.reduceLT, Int.reduceLE, Int.reduceAdd, Int.reduceSub, Int.reduceMul, Int.reducePow, Nat.reducePow, true_or, Option.isNone_some, Option.isNone_none, vcXPb, Tryd.f83, List.toList_toArray, again_eq]
          refine ⟨fun j hj => ?_, _, rfl⟩
          by_cases hjk : j = k
          · subst hjk; exact hz
          · exact hb j (by omega)
      · have : k = i := by omega
        subst this
        have : r = false := by rw [← hr]; unfold knS; rw [anyB_false.2 hb, h2']; rfl
        subst this
        (repeat' ((first | with_reducible (first | apply XQ_cons | apply XQ_consG | apply XQ_nil | apply XR_cons | apply XR_consG | apply XR_nil | apply cF_pure1 (by assumption) | apply cV_pure1 (by assumption) | apply cF_ev1 (by assumption) | apply cV_ev1 (by assumption)) | (with_reducible apply X_drawC (id := 6) 7; (next => (kernel_rfl)); (next => (kernel_rfl))) | refine X_of _ ?_ | with_reducible (first | exact ⟨_, rfl⟩ | refine And.intro ?_ ?_ | intro _)) <;> try simp -implicitDefEqProofs (maxSteps := 1000000) (disch := first | exact dz1 | fail) only [vcR, vcT, Int.reduceBEq, Int.reduceBNe, Int.reduceEq, Int.reduceNe, Ab.part, Nat.reduceAdd, Nat.reduceMul, Nat.reduceLeDiff, Nat.reduceEqDiff, Nat.reduceBEq, Nat.reduceBNe, reduceCtorEq, ↓reduceIte, implies_true, forall_const, Int.reduceNeg, Int.reduceToNat, Int.reduceLT, Int.reduceLE, Int.reduceAdd, Int.reduceSub, Int.reduceMul, Int.reducePow, Nat.reducePow, true_or, Option.isNone_some, Option.isNone_none, vcXPb, Tryd.f83, List.toList_toArray, arr4_zero, nat4_set1, nat4_setL, nat4_set0]))


theorem rcheck_m (x : Option Addr) (m c : Nat) (l : Nat → Pf) (hl : PfOk l) (hm : m < 9223372036854775808) :
    PureM Tryd.prog 82 [.s (.v (.slice x m c))] (fun w => prfs x m l w) (.s (.v (.int .i64 (ckS l m)))) := by
  obtain ⟨r, hr⟩ : ∃ r, ckS l m = r := ⟨_, rfl⟩
  rw [hr]
  (refine pureM_of Tryd.func82 rfl (by simp only [List.length_cons, List.length_nil, List.map_cons, List.map_nil, List.nodup_cons, List.nodup_nil, List.mem_cons, Nat.reduceAdd, Nat.reduceEqDiff, or_false, not_false_eq_true, forall_eq_or_imp, forall_eq, or_self, Nat.reduceLT, Nat.reduceLeDiff, and_self, List.forall_mem_cons, List.not_mem_nil, false_implies, implies_true, and_true, true_and, vcOPb]) (by simp only [List.length_cons, List.length_nil, List.map_cons, List.map_nil, List.nodup_cons, List.nodup_nil, List.mem_cons, Nat.reduceAdd, Nat.reduceEqDiff, or_false, not_false_eq_true, forall_eq_or_imp, forall_eq, or_self, Nat.reduceLT, Nat.reduceLeDiff, and_self, List.forall_mem_cons, List.not_mem_nil, false_implies, implies_true, and_true, true_and, vcOPb]) fun w hpre => ?_; simp only [List.length_cons, List.length_nil, Tryd.ntmps82, Nat.reduceAdd, Nat.reduceSub, List.replicate_succ, List.replicate_zero, List.cons_append, List.nil_append])
  have hP0 := prfs_kn (P0 := Tryd.prog) hpre
  have hP1 := hP0.prfs0
  have hadr : m ≠ 0 → ∃ ad, x = some ad := fun h => by
    rcases hpre.1 with h0 | ⟨ad, h0, _⟩
    · omega
    · exact ⟨ad, h0⟩
  clear hpre
  by_cases h40 : 40 < m
  · have h40' : (40 : Int) < (m : Int) := by omega
    rw [ckS_long h40] at hr
    subst hr
    (repeat' ((first | with_reducible (first | apply XR_cons | apply XR_consG | apply XR_nil | apply cF_pure1 (by assumption) | apply cF_ev1 (by assumption)) | with_reducible (first | apply X_regRS (id := 7) | apply X_regR (id := 7) | apply X_seqX (x := .seq (.region 7 _ false) _) | apply X_seqX (x := .seq (.seq (.region 7 _ false) _) _) | apply X_regRS (id := 9) | apply X_regR (id := 9) | apply X_seqX (x := .seq (.region 9 _ false) _) | apply X_seqX (x := .seq (.seq (.region 9 _ false) _) _)) | refine X_of _ ?_ | with_reducible (first | exact ⟨_, rfl⟩ | refine And.intro ?_ ?_ | intro _)) <;> try simp -implicitDefEqProofs (maxSteps := 1000000) (disch := first | exact dz1 | fail) only [vcR, vcT, Int.reduceBEq, Int.reduceBNe, Int.reduceEq, Int.reduceNe, Ab.part, Nat.reduceAdd, Nat.reduceMul, Nat.reduceLeDiff, Nat.reduceEqDiff, Nat.reduceBEq, Nat.reduceBNe, reduceCtorEq, ↓reduceIte, implies_true, forall_const, Int.reduceNeg, Int.reduceToNat, Int.reduceLT, Int.reduceLE, Int.reduceAdd, Int.reduceSub, Int.reduceMul, Int.reducePow, Nat.reducePow, true_or, Option.isNone_some, Option.isNone_none, vcXPb, Tryd.f82, List.toList_toArray, arr4_zero, nat4_set1, nat4_setL, nat4_set0, h40']))
  · have h40' : ¬ (40 : Int) < (m : Int) := by omega
    rw [ckS_short h40] at hr
    (repeat' ((first | with_reducible (first | apply XR_cons | apply XR_consG | apply XR_nil | apply cF_pure1 (by assumption) | apply cF_ev1 (by assumption)) | with_reducible (first | apply X_regRS (id := 7) | apply X_regR (id := 7) | apply X_seqX (x := .seq (.region 7 _ false) _) | apply X_seqX (x := .seq (.seq (.region 7 _ false) _) _) | apply X_regRS (id := 9) | apply X_regR (id := 9) | apply X_seqX (x := .seq (.region 9 _ false) _) | apply X_seqX (x := .seq (.seq (.region 9 _ false) _) _)) | refine X_of _ ?_ | with_reducible (first | exact ⟨_, rfl⟩ | refine And.intro ?_ ?_ | intro _)) <;> try simp -implicitDefEqProofs (maxSteps := 1000000) (disch := first | exact dz1 | fail) only [vcR, vcT, Int.reduceBEq, Int.reduceBNe, Int.reduceEq, Int.reduceNe, Ab.part, Nat.reduceAdd, Nat.reduceMul, Nat.reduceLeDiff, Nat.reduceEqDiff, Nat.reduceBEq, Nat.reduceBNe, reduceCtorEq, ↓reduceIte, implies_true, forall_const, Int.reduceNeg, Int.reduceToNat, Int.reduceLT, Int.reduceLE, Int.reduceAdd, Int.reduceSub, Int.reduceMul, Int.reducePow, Nat.reducePow, true_or, Option.isNone_some, Option.isNone_none, vcXPb, Tryd.f82, List.toList_toArray, arr4_zero, nat4_set1, nat4_setL, nat4_set0, h40']))
    refine X_loop (ι := Nat) (fun i => i ≤ m ∧ ckU l i = 0) (fun i => m - i) [3, 4, 5, 6, 10, 11, 12, 13, 14, 15, 16, 17, 18, 19, 20, 21, 22, 23, 24, 25, 26, 27, 28, 29, 30, 31, 32, 33, 34, 35, 36, 37, 38, 39, 40, 41, 42, 43, 44, 45, 46]
      (fun i => [(3, .s (.v (.int .i64 (i : Nat))))])
      (fun i => []) 0 (shape_of fun i => ?_) (by decide) ?_ ?_
    · simp only [List.length_cons, List.length_nil, List.map_cons, List.map_nil, List.nodup_cons, List.nodup_nil, List.mem_cons, Nat.reduceAdd, Nat.reduceEqDiff, or_false, not_false_eq_true, forall_eq_or_imp, forall_eq, or_self, Nat.reduceLT, Nat.reduceLeDiff, and_self, List.forall_mem_cons, List.not_mem_nil, false_implies, implies_true, and_true, true_and, vcOPb]
    · simp -implicitDefEqProofs (maxSteps := 1000000) (disch := first | exact dz1 | fail) only [vcR, vcT, Int.reduceBEq, Int.reduceBNe, Int.reduceEq, Int.reduceNe, Ab.part, Nat.reduceAdd, Nat.reduceMul, Nat.reduceLeDiff, Nat.reduceEqDiff, Nat.reduceBEq, Nat.reduceBNe, reduceCtorEq, ↓reduceIte, implies_true, forall_const, Int.reduceNeg, Int.reduceToNat, Int.reduceLT, Int.reduceLE, Int.reduceAdd, Int.reduceSub, Int.reduceMul, Int.reducePow, Nat.reducePow, true_or, Option.isNone_some, Option.isNone_none, vcXPb, Tryd.f82, List.toList_toArray, again_eq]
      exact ⟨rfl, _, rfl⟩
    · intro i us ⟨hi, hU⟩
      by_cases h : i < m
      · obtain ⟨ad, rfl⟩ := hadr (by omega)
        obtain ⟨p, hli⟩ : ∃ p, l i = p := ⟨_, rfl⟩
        obtain ⟨N, G, y, n, c', P, E⟩ := p
        have hNl : N < 2 ^ 256 := by have := hl.N i; rwa [hli] at this
        have hGl : G < 2 ^ 256 := by have := hl.G i; rwa [hli] at this
        have hPl : ∀ k, P k < 2 ^ 256 := fun k => by have := hl.P i k; rwa [hli] at this
        have hEl : ∀ k, -9223372036854775808 ≤ E k ∧ E k < 9223372036854775808 := fun k => by have := hl.E i k; rwa [hli] at this
        have hnl : n < 9223372036854775808 := by have := hl.n i; rwa [hli] at this
        have hF0 : Kn (ctx0 Tryd.prog w) (facsAt Evo.none y n P E) := by have := hP0.prfF h; rwa [hli] at this
        have hF1 := hF0.facs0
        have hady : n ≠ 0 → ∃ ad, y = some ad := fun h => by
          rcases hF0 _ (FrP.now _) with h0 | ⟨ad, h0, _⟩
          · exact absurd h0 h
          · exact ⟨ad, h0⟩
        have hx : ∀ {q : Nat} {K : TV → HE → Prop}, xext (ctx0 Tryd.prog w) (some false) q ((ad.add (i * 9)).add 8) K = K (.s (.v (.slice y n c'))) .none := fun {q K} => by rw [hP0.prfS h, hli]
        have hxx : ∀ {K : TV → HE → Prop}, xext (ctx0 Tryd.prog w) (some true) 9 (ad.add (i * 9)) K = K (.agg (prf N G (.v (.slice y n c')))) .none := fun {K} => by rw [hP0.prf h, hli]
        (repeat' ((first | with_reducible (first | apply XR_cons | apply XR_consG | apply XR_nil | apply cF_pure1 (by assumption) | apply cF_ev1 (by assumption)) | with_reducible (first | apply X_regRS (id := 7) | apply X_regR (id := 7) | apply X_seqX (x := .seq (.region 7 _ false) _) | apply X_seqX (x := .seq (.seq (.region 7 _ false) _) _) | apply X_regRS (id := 9) | apply X_regR (id := 9) | apply X_seqX (x := .seq (.region 9 _ false) _) | apply X_seqX (x := .seq (.seq (.region 9 _ false) _) _)) | refine X_of _ ?_ | with_reducible (first | exact ⟨_, rfl⟩ | refine And.intro ?_ ?_ | intro _)) <;> try simp -implicitDefEqProofs (maxSteps := 1000000) (disch := first | exact dz1 | fail) only [vcR, vcT, Int.reduceBEq, Int.reduceBNe, Int.reduceEq, Int.reduceNe, Ab.part, Nat.reduceAdd, Nat.reduceMul, Nat.reduceLeDiff, Nat.reduceEqDiff, Nat.reduceBEq, Nat.reduceBNe, reduceCtorEq, ↓reduceIte, implies_true, forall_const, Int.reduceNeg, Int.reduceToNat, Int.reduceLT, Int.reduceLE, Int.reduceAdd, Int.reduceSub, Int.reduceMul, Int.reducePow, Nat.reducePow, true_or, Option.isNone_some, Option.isNone_none, vcXPb, Tryd.f82, List.toList_toArray, arr4_zero, nat4_set1, nat4_setL, nat4_set0, hx]))
        refine X_loop (ι := Nat) (fun k => k ≤ n ∧ ∀ j, j < k → knS l i (P j) = true) (fun k => n - k) [4, 5, 16, 17, 18, 19, 20, 21, 22, 23, 24, 25, 26, 27, 28, 29, 30, 31, 32, 33, 34, 35, 36, 37, 38, 39]
          (fun k => [(4, .s (.v (.int .i64 (k : Nat))))])
          (fun k => []) 0 (shape_of fun k => ?_) (by decide) ?_ ?_
        · simp only [List.length_cons, List.length_nil, List.map_cons, List.map_nil, List.nodup_cons, List.nodup_nil, List.mem_cons, Nat.reduceAdd, Nat.reduceEqDiff, or_false, not_false_eq_true, forall_eq_or_imp, forall_eq, or_self, Nat.reduceLT, Nat.reduceLeDiff, and_self, List.forall_mem_cons, List.not_mem_nil, false_implies, implies_true, and_true, true_and, vcOPb]
        · simp -implicitDefEqProofs (maxSteps := 1000000) (disch := first | exact dz1 | fail) only [vcR, vcT, Int.reduceBEq, Int.reduceBNe, Int.reduceEq, Int.reduceNe, Ab.part, Nat.reduceAdd, Nat.reduceMul, Nat.reduceLeDiff, Nat.reduceEqDiff, Nat.reduceBEq, Nat.reduceBNe, reduceCtorEq, ↓reduceIte, implies_true, forall_const, Int.reduceNeg, Int.reduceToNat, Int.reduceLT, Int.reduceLE, Int.reduceAdd, Int.reduceSub, Int.reduceMul, Int.reducePow, Nat.reducePow, true_or, Option.isNone_some, Option.isNone_none, vcXPb, Tryd.f82, List.toList_toArray, again_eq]
          exact ⟨_, rfl⟩
        · intro k us2 ⟨hk, hkn⟩
          by_cases hkk : k < n
          · obtain ⟨ad2, rfl⟩ := hady (by omega)
            have hy : ∀ {K : TV → HE → Prop}, xext (ctx0 Tryd.prog w) (some true) 4 ((ad2.add (k * 5)).add 0) K = K (.agg (nat4 (P k))) .none := fun {K} => by rw [add_add (hF0.facs hkk).spot]; exact hF0.facP hkk
            have hknw := (rknown_m (some ad) m c l i (P k) hl hm (by omega) (hPl k)).ev (V := Evo.none)
            cases hz : knS l i (P k) with
            | false =>
              rw [hz] at hknw
              have hck : ckA l i = 20 := ckA_un (k := k) (by rw [hli]; exact hkk) (by rw [hli]; exact hz)
              rw [ckU_stop h hU (by rw [hck]; decide), hck] at hr
              subst hr
              (repeat' ((first | with_reducible (first | apply XR_cons | apply XR_consG | apply XR_nil | apply cF_pure1 (by assumption) | apply cF_ev1 (by assumption)) | with_reducible (first | apply X_regRS (id := 7) | apply X_regR (id := 7) | apply X_seqX (x := .seq (.region 7 _ false) _) | apply X_seqX (x := .seq (.seq (.region 7 _ false) _) _) | apply X_regRS (id := 9) | apply X_regR (id := 9) | apply X_seqX (x := .seq (.region 9 _ false) _) | apply X_seqX (x := .seq (.seq (.region 9 _ false) _) _) | apply X_seqX (x := .block _ (.seq (.seq (.region 7 _ false) _) _)) | apply X_blockX (b := (.seq (.seq (.region 7 _ false) _) _)) | apply X_seqX (x := .block _ (.seq (.region 7 _ false) _)) | apply X_blockX (b := (.seq (.region 7 _ false) _)) | apply X_seqX (x := .block _ (.seq (.seq (.region 9 _ false) _) _)) | apply X_blockX (b := (.seq (.seq (.region 9 _ false) _) _)) | apply X_seqX (x := .block _ (.seq (.region 9 _ false) _)) | apply X_blockX (b := (.seq (.region 9 _ false) _))) | refine X_of _ ?_ | with_reducible (first | exact ⟨_, rfl⟩ | refine And.intro ?_ ?_ | intro _)) <;> try simp -implicitDefEqProofs (maxSteps := 1000000) (disch := first | exact dz1 | fail) only [vcR, vcT, Int.reduceBEq, Int.reduceBNe, Int.reduceEq, Int.reduceNe, Ab.part, Nat.reduceAdd, Nat.reduceMul, Nat.reduceLeDiff, Nat.reduceEqDiff, Nat.reduceBEq, Nat.reduceBNe, reduceCtorEq, ↓reduceIte, implies_true, forall_const, Int.reduceNeg, Int.reduceToNat, Int.reduceLT, Int.reduceLE, Int.reduceAdd, Int.reduceSub, Int.reduceMul, Int.reducePow, Nat.reducePow, true_or, Option.isNone_some, Option.isNone_none, vcXPb, Tryd.f82, List.toList_toArray, arr4_zero, nat4_set1, nat4_setL, nat4_set0, hx,hy]))
            | true =>
              rw [hz] at hknw
              (repeat' ((first | with_reducible (first | apply XR_cons | apply XR_consG | apply XR_nil | apply cF_pure1 (by assumption) | apply cF_ev1 (by assumption)) | with_reducible (first | apply X_regRS (id := 7) | apply X_regR (id := 7) | apply X_seqX (x := .seq (.region 7 _ false) _) | apply X_seqX (x := .seq (.seq (.region 7 _ false) _) _) | apply X_regRS (id := 9) | apply X_regR (id := 9) | apply X_seqX (x := .seq (.region 9 _ false) _) | apply X_seqX (x := .seq (.seq (.region 9 _ false) _) _) | apply X_seqX (x := .block _ (.seq (.seq (.region 7 _ false) _) _)) | apply X_blockX (b := (.seq (.seq (.region 7 _ false) _) _)) | apply X_seqX (x := .block _ (.seq (.region 7 _ false) _)) | apply X_blockX (b := (.seq (.region 7 _ false) _)) | apply X_seqX (x := .block _ (.seq (.seq (.region 9 _ false) _) _)) | apply X_blockX (b := (.seq (.seq (.region 9 _ false) _) _)) | apply X_seqX (x := .block _ (.seq (.region 9 _ false) _)) | apply X_blockX (b := (.seq (.region 9 _ false) _))) | refine X_of _ ?_ | with_reducible (first | exact ⟨_, rfl⟩ | refine And.intro ?_ ?_ | intro _)) <;> try simp -implicitDefEqProofs (maxSteps := 1000000) (disch := first | exact dz1 | fail) only [vcR, vcT, Int.reduceBEq, Int.reduceBNe, Int.reduceEq, Int.reduceNe, Ab.part, Nat.reduceAdd, Nat.reduceMul, Nat.reduceLeDiff, Nat.reduceEqDiff, Nat.reduceBEq, Nat.reduceBNe, reduceCtorEq, ↓reduceIte, implies_true, forall_const, Int.reduceNeg, Int.reduceToNat, Int.reduceLT, Int.reduceLE, Int.reduceAdd, Int.reduceSub, Int.reduceMul, Int.reducePow, Nat.reducePow, true_or, Option.isNone_some, Option.isNone_none, vcXPb, Tryd.f82, List.toList_toArray, arr4_zero, nat4_set1, nat4_setL, nat4_set0, hx,hy]))
              refine ⟨k + 1, by omega, ?_⟩
              simp -implicitDefEqProofs (maxSteps := 1000000) (disch := first | exact dz1 | fail) only [vcR, vcT, Int.reduceBEq, Int.reduceBNe, Int.reduceEq, Int.reduceNe, Ab.part, Nat.reduceAdd, Nat.reduceMul, Nat.reduceLeDiff, Nat.reduceEqDiff, Nat.reduceBEq, Nat.reduceBNe, reduceCtorEq, ↓reduceIte, implies_true, forall_const, Int.reduceNeg, Int.reduceToNat, Int.reduceLT, Int.reduceLE, Int.reduceAdd, Int.reduceSub, Int.reduceMul, Int.reducePow, Nat.reducePow, true_or, Option.isNone_some, Option.isNone_none, vcXPb, Tryd.f82, List.toList_toArray, again_eq]
              refine ⟨fun j hj => ?_, _, rfl⟩
              by_cases hjk : j = k
              · subst hjk; exact hz
              · exact hkn j (by omega)
          · have : k = n := by omega
            subst this
            have hst := (rstep_m N G y k c' P E hNl hGl hPl hEl hnl).ev (V := Evo.none)
            obtain ⟨e, he⟩ : ∃ e, stS N G k P E = e := ⟨_, rfl⟩
            have hck : ckA l i = e := by
              rw [ckA_st (by rw [hli]; exact hkn), hli]
              exact he
            rw [he] at hst
            by_cases he0 : e = 0
            · subst he0
              (repeat' ((first | with_reducible (first | apply XR_cons | apply XR_consG | apply XR_nil | apply cF_pure1 (by assumption) | apply cF_ev1 (by assumption)) | with_reducible (first | apply X_regRS (id := 7) | apply X_regR (id := 7) | apply X_seqX (x := .seq (.region 7 _ false) _) | apply X_seqX (x := .seq (.seq (.region 7 _ false) _) _) | apply X_regRS (id := 9) | apply X_regR (id := 9) | apply X_seqX (x := .seq (.region 9 _ false) _) | apply X_seqX (x := .seq (.seq (.region 9 _ false) _) _) | apply X_seqX (x := .block _ (.seq (.seq (.region 7 _ false) _) _)) | apply X_blockX (b := (.seq (.seq (.region 7 _ false) _) _)) | apply X_seqX (x := .block _ (.seq (.region 7 _ false) _)) | apply X_blockX (b := (.seq (.region 7 _ false) _)) | apply X_seqX (x := .block _ (.seq (.seq (.region 9 _ false) _) _)) | apply X_blockX (b := (.seq (.seq (.region 9 _ false) _) _)) | apply X_seqX (x := .block _ (.seq (.region 9 _ false) _)) | apply X_blockX (b := (.seq (.region 9 _ false) _))) | refine X_of _ ?_ | with_reducible (first | exact ⟨_, rfl⟩ | refine And.intro ?_ ?_ | intro _)) <;> try simp -implicitDefEqProofs (maxSteps := 1000000) (disch := first | exact dz1 | fail) only [vcR, vcT, Int.reduceBEq, Int.reduceBNe, Int.reduceEq, Int.reduceNe, Ab.part, Nat.reduceAdd, Nat.reduceMul, Nat.reduceLeDiff, Nat.reduceEqDiff, Nat.reduceBEq, Nat.reduceBNe, reduceCtorEq, ↓reduceIte, implies_true, forall_const, Int.reduceNeg, Int.reduceToNat, Int.reduceLT, Int.reduceLE, Int.reduceAdd, Int.reduceSub, Int.reduceMul, Int.reducePow, Nat.reducePow, true_or, Option.isNone_some, Option.isNone_none, vcXPb, Tryd.f82, List.toList_toArray, arr4_zero, nat4_set1, nat4_setL, nat4_set0, hx,hxx,bne_self_eq_false]))
              refine ⟨i + 1, by omega, ?_⟩
              simp -implicitDefEqProofs (maxSteps := 1000000) (disch := first | exact dz1 | fail) only [vcR, vcT, Int.reduceBEq, Int.reduceBNe, Int.reduceEq, Int.reduceNe, Ab.part, Nat.reduceAdd, Nat.reduceMul, Nat.reduceLeDiff, Nat.reduceEqDiff, Nat.reduceBEq, Nat.reduceBNe, reduceCtorEq, ↓reduceIte, implies_true, forall_const, Int.reduceNeg, Int.reduceToNat, Int.reduceLT, Int.reduceLE, Int.reduceAdd, Int.reduceSub, Int.reduceMul, Int.reducePow, Nat.reducePow, true_or, Option.isNone_some, Option.isNone_none, vcXPb, Tryd.f82, List.toList_toArray, again_eq]
              exact ⟨ckU_go hU hck, _, rfl⟩
            · have he' : (e != 0) = true := by simpa using he0
              rw [ckU_stop h hU (by rw [hck]; exact he0), hck] at hr
              subst hr
              (repeat' ((first | with_reducible (first | apply XR_cons | apply XR_consG | apply XR_nil | apply cF_pure1 (by assumption) | apply cF_ev1 (by assumption)) | with_reducible (first | apply X_regRS (id := 7) | apply X_regR (id := 7) | apply X_seqX (x := .seq (.region 7 _ false) _) | apply X_seqX (x := .seq (.seq (.region 7 _ false) _) _) | apply X_regRS (id := 9) | apply X_regR (id := 9) | apply X_seqX (x := .seq (.region 9 _ false) _) | apply X_seqX (x := .seq (.seq (.region 9 _ false) _) _) | apply X_seqX (x := .block _ (.seq (.seq (.region 7 _ false) _) _)) | apply X_blockX (b := (.seq (.seq (.region 7 _ false) _) _)) | apply X_seqX (x := .block _ (.seq (.region 7 _ false) _)) | apply X_blockX (b := (.seq (.region 7 _ false) _)) | apply X_seqX (x := .block _ (.seq (.seq (.region 9 _ false) _) _)) | apply X_blockX (b := (.seq (.seq (.region 9 _ false) _) _)) | apply X_seqX (x := .block _ (.seq (.region 9 _ false) _)) | apply X_blockX (b := (.seq (.region 9 _ false) _))) | refine X_of _ ?_ | with_reducible (first | exact ⟨_, rfl⟩ | refine And.intro ?_ ?_ | intro _)) <;> try simp -implicitDefEqProofs (maxSteps := 1000000) (disch := first | exact dz1 | fail) only [vcR, vcT, Int.reduceBEq, Int.reduceBNe, Int.reduceEq, Int.reduceNe, Ab.part, Nat.reduceAdd, Nat.reduceMul, Nat.reduceLeDiff, Nat.reduceEqDiff, Nat.reduceBEq, Nat.reduceBNe, reduceCtorEq, ↓reduceIte, implies_true, forall_const, Int.reduceNeg, Int.reduceToNat, Int.reduceLT, Int.reduceLE, Int.reduceAdd, Int.reduceSub, Int.reduceMul, Int.reducePow, Nat.reducePow, true_or, Option.isNone_some, Option.isNone_none, vcXPb, Tryd.f82, List.toList_toArray, arr4_zero, nat4_set1, nat4_setL, nat4_set0, hx,hxx,he']))
      · have : i = m := by omega
        subst this
        rw [hU] at hr
        subst hr
        (repeat' ((first | with_reducible (first | apply XR_cons | apply XR_consG | apply XR_nil | apply cF_pure1 (by assumption) | apply cF_ev1 (by assumption)) | with_reducible (first | apply X_regRS (id := 7) | apply X_regR (id := 7) | apply X_seqX (x := .seq (.region 7 _ false) _) | apply X_seqX (x := .seq (.seq (.region 7 _ false) _) _) | apply X_regRS (id := 9) | apply X_regR (id := 9) | apply X_seqX (x := .seq (.region 9 _ false) _) | apply X_seqX (x := .seq (.seq (.region 9 _ false) _) _)) | refine X_of _ ?_ | with_reducible (first | exact ⟨_, rfl⟩ | refine And.intro ?_ ?_ | intro _)) <;> try simp -implicitDefEqProofs (maxSteps := 1000000) (disch := first | exact dz1 | fail) only [vcR, vcT, Int.reduceBEq, Int.reduceBNe, Int.reduceEq, Int.reduceNe, Ab.part, Nat.reduceAdd, Nat.reduceMul, Nat.reduceLeDiff, Nat.reduceEqDiff, Nat.reduceBEq, Nat.reduceBNe, reduceCtorEq, ↓reduceIte, implies_true, forall_const, Int.reduceNeg, Int.reduceToNat, Int.reduceLT, Int.reduceLE, Int.reduceAdd, Int.reduceSub, Int.reduceMul, Int.reducePow, Nat.reducePow, true_or, Option.isNone_some, Option.isNone_none, vcXPb, Tryd.f82, List.toList_toArray, arr4_zero, nat4_set1, nat4_setL, nat4_set0]))


theorem rproves_m (x : Option Addr) (m c : Nat) (l : Nat → Pf) (n : Nat) (hl : PfOk l) (hm : m < 9223372036854775808) (hn : n < 2 ^ 256) :
    PureM Tryd.prog 50 [.s (.v (.slice x m c)), .agg (nat4 n)] (fun w => prfs x m l w) (.s (.v (.int .i64 (pvS l m n)))) := by
  obtain ⟨r, hr⟩ : ∃ r, pvS l m n = r := ⟨_, rfl⟩
  rw [hr]
  (refine pureM_of Tryd.func50 rfl (by simp only [List.length_cons, List.length_nil, List.map_cons, List.map_nil, List.nodup_cons, List.nodup_nil, List.mem_cons, Nat.reduceAdd, Nat.reduceEqDiff, or_false, not_false_eq_true, forall_eq_or_imp, forall_eq, or_self, Nat.reduceLT, Nat.reduceLeDiff, and_self, List.forall_mem_cons, List.not_mem_nil, false_implies, implies_true, and_true, true_and, vcOPb]) (by simp only [List.length_cons, List.length_nil, List.map_cons, List.map_nil, List.nodup_cons, List.nodup_nil, List.mem_cons, Nat.reduceAdd, Nat.reduceEqDiff, or_false, not_false_eq_true, forall_eq_or_imp, forall_eq, or_self, Nat.reduceLT, Nat.reduceLeDiff, and_self, List.forall_mem_cons, List.not_mem_nil, false_implies, implies_true, and_true, true_and, vcOPb]) fun w hpre => ?_; simp only [List.length_cons, List.length_nil, Tryd.ntmps50, Nat.reduceAdd, Nat.reduceSub, List.replicate_succ, List.replicate_zero, List.cons_append, List.nil_append])
  have hP1 := (prfs_kn (P0 := Tryd.prog) hpre).prfs0
  clear hpre
  have hck := (rcheck_m x m c l hl hm).ev (V := Evo.none)
  have hknw := (rknown_m x m c l m n hl hm (Nat.le_refl _) hn).ev (V := Evo.none)
  obtain ⟨e, he⟩ : ∃ e, ckS l m = e := ⟨_, rfl⟩
  rw [he] at hck
  by_cases he0 : e = 0
  · subst he0
    unfold pvS at hr
    rw [if_neg (show ¬ ckS l m ≠ 0 from fun h => h he)] at hr
    cases hz : knS l m n with
    | true =>
      rw [hz] at hknw hr
      have hr'' : r = 0 := hr.symm
      subst hr''
      (repeat' ((first | with_reducible (first | apply cF_pure1 (by assumption) | apply cF_ev1 (by assumption)) | refine X_of _ ?_ | with_reducible (first | exact ⟨_, rfl⟩ | refine And.intro ?_ ?_ | intro _)) <;> try simp -implicitDefEqProofs (maxSteps := 1000000) (disch := first | exact dz1 | fail) only [vcR, vcT, Int.reduceBEq, Int.reduceBNe, Int.reduceEq, Int.reduceNe, Ab.part, Nat.reduceAdd, Nat.reduceMul, Nat.reduceLeDiff, Nat.reduceEqDiff, Nat.reduceBEq, Nat.reduceBNe, reduceCtorEq, ↓reduceIte, implies_true, forall_const, Int.reduceNeg, Int.reduceToNat, Int.reduceLT, Int.reduceLE, Int.reduceAdd, Int.reduceSub, Int.reduceMul, Int.reducePow, Nat.reducePow, true_or, Option.isNone_some, Option.isNone_none, vcXPb, Tryd.f50, List.toList_toArray, arr4_zero, nat4_set1, nat4_setL, nat4_set0, bne_self_eq_false]))
    | false =>
      rw [hz] at hknw hr
      have hr'' : r = 20 := hr.symm
      subst hr''
      (repeat' ((first | with_reducible (first | apply cF_pure1 (by assumption) | apply cF_ev1 (by assumption)) | refine X_of _ ?_ | with_reducible (first | exact ⟨_, rfl⟩ | refine And.intro ?_ ?_ | intro _)) <;> try simp -implicitDefEqProofs (maxSteps := 1000000) (disch := first | exact dz1 | fail) only [vcR, vcT, Int.reduceBEq, Int.reduceBNe, Int.reduceEq, Int.reduceNe, Ab.part, Nat.reduceAdd, Nat.reduceMul, Nat.reduceLeDiff, Nat.reduceEqDiff, Nat.reduceBEq, Nat.reduceBNe, reduceCtorEq, ↓reduceIte, implies_true, forall_const, Int.reduceNeg, Int.reduceToNat, Int.reduceLT, Int.reduceLE, Int.reduceAdd, Int.reduceSub, Int.reduceMul, Int.reducePow, Nat.reducePow, true_or, Option.isNone_some, Option.isNone_none, vcXPb, Tryd.f50, List.toList_toArray, arr4_zero, nat4_set1, nat4_setL, nat4_set0, bne_self_eq_false]))
  · have he' : (e != 0) = true := by simpa using he0
    unfold pvS at hr
    rw [if_pos (show ckS l m ≠ 0 by rw [he]; exact he0), he] at hr
    subst hr
    (repeat' ((first | with_reducible (first | apply cF_pure1 (by assumption) | apply cF_ev1 (by assumption)) | refine X_of _ ?_ | with_reducible (first | exact ⟨_, rfl⟩ | refine And.intro ?_ ?_ | intro _)) <;> try simp -implicitDefEqProofs (maxSteps := 1000000) (disch := first | exact dz1 | fail) only [vcR, vcT, Int.reduceBEq, Int.reduceBNe, Int.reduceEq, Int.reduceNe, Ab.part, Nat.reduceAdd, Nat.reduceMul, Nat.reduceLeDiff, Nat.reduceEqDiff, Nat.reduceBEq, Nat.reduceBNe, reduceCtorEq, ↓reduceIte, implies_true, forall_const, Int.reduceNeg, Int.reduceToNat, Int.reduceLT, Int.reduceLE, Int.reduceAdd, Int.reduceSub, Int.reduceMul, Int.reducePow, Nat.reducePow, true_or, Option.isNone_some, Option.isNone_none, vcXPb, Tryd.f50, List.toList_toArray, arr4_zero, nat4_set1, nat4_setL, nat4_set0, he']))
end Go.Proofs.YtdmcknmjdlghgaaDoor
