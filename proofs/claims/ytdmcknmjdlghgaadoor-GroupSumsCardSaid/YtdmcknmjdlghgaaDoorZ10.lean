/-
  GroupSums: sums of exponents are products.
-/
import Derived.WalkKit
import Derived.StillTail
import Derived.Deep.MidRow
import Derived.DeepKeys
import Derived.Deep.LoopGhost
import Derived.Deep.Quiet
import Derived.Laws.AppendOwn
import Derived.Laws.MakeOwn
import Derived.Laws.Cover3
import Derived.Laws.IdiomCopy
import Derived.Laws.CopyRow
import Derived.Laws.BitsAllLaws
import Derived.Laws.Bits128
import Derived.Lib.BitFns
import Derived.DeepKeys3
import Derived.MapKept
import Derived.Test.YtdmcknmjdlghgaaDoorProg
import Derived.Shelf.Bits.Mul64
import Derived.Shelf.Strconv.Itoa0
import Derived.Shelf.Spec.BitsCarry
import Derived.Tactics
import Derived.Tactics2
import Derived.Defers
import Derived.Laws.Pointers
import Derived.Laws.LoneSync
import Derived.RegionTactic
import Derived.RegionCalls
import Derived.ChangeAlike
import Derived.KernelRfl
import Derived.Laws.NewBlocks
import Derived.Test.YtdmcknmjdlghgaaDoorZ01
import Derived.Test.YtdmcknmjdlghgaaDoorZ02
import Derived.Test.YtdmcknmjdlghgaaDoorZ03
import Derived.Test.YtdmcknmjdlghgaaDoorZ04
import Derived.Test.YtdmcknmjdlghgaaDoorZ07
import Derived.Test.YtdmcknmjdlghgaaDoorZ09
namespace Go.Proofs.YtdmcknmjdlghgaaDoor
open Go Go.Ab
set_option linter.unusedSimpArgs false
set_option linter.unusedVariables false
set_option linter.defProp false
set_option maxHeartbeats 20000000
set_option maxRecDepth 100000


theorem groupSums_m (z : Int) (hz : IntKind.i64.min ≤ z ∧ z ≤ IntKind.i64.max) (n : Nat) (hn : n < 2 ^ 256) (c : Nat) (hc : c < 2 ^ 256) :
    PureM Tryd.prog 8 [.s (.v (.int .i64 z)), .agg (nat4 n), .agg (nat4 c)] gv (.s (.v (.bool true))) := by
  clear hz
  have hsm := small_g z
  have hok := sm_ok z
  obtain ⟨P, hP⟩ : ∃ P, smP z = P := ⟨_, rfl⟩
  obtain ⟨Q, hQ⟩ : ∃ Q, smQ z = Q := ⟨_, rfl⟩
  rw [hP, hQ] at hsm hok
  clear hP hQ
  have haw := gawake_m.ev (V := Evo.none)
  (refine pureM_of Tryd.func8 rfl (by simp only [List.length_cons, List.length_nil, List.map_cons, List.map_nil, List.nodup_cons, List.nodup_nil, List.mem_cons, Nat.reduceAdd, Nat.reduceEqDiff, or_false, not_false_eq_true, forall_eq_or_imp, forall_eq, or_self, Nat.reduceLT, Nat.reduceLeDiff, and_self, List.forall_mem_cons, List.not_mem_nil, false_implies, implies_true, and_true, true_and, vcOGb]) (by simp only [List.length_cons, List.length_nil, List.map_cons, List.map_nil, List.nodup_cons, List.nodup_nil, List.mem_cons, Nat.reduceAdd, Nat.reduceEqDiff, or_false, not_false_eq_true, forall_eq_or_imp, forall_eq, or_self, Nat.reduceLT, Nat.reduceLeDiff, and_self, List.forall_mem_cons, List.not_mem_nil, false_implies, implies_true, and_true, true_and, vcOGb]) fun w hpre => ?_; simp only [List.length_cons, List.length_nil, Tryd.ntmps8, Nat.reduceAdd, Nat.reduceSub, List.replicate_succ, List.replicate_zero, List.cons_append, List.nil_append])
  have hgv := gv_kn (P0 := Tryd.prog) hpre
  (repeat' ((first | with_reducible (first | apply XR_cons | apply XR_consG | apply XR_nil | apply XM_cons | apply XM_consG | apply XM_nil | apply cF_pure2 (by assumption) | apply cM_pure2 (by assumption) | apply cF_ev2 (by assumption) | apply cM_ev2 (by assumption) | apply cF_ev2 (plus_e _ _ _ _ bd2 bd2 bd2) | apply cM_ev2 (plus_e _ _ _ _ bd2 bd2 bd2) | apply cF_ev2 (times_e _ _ _ _ bd2 bd2 bd2) | apply cM_ev2 (times_e _ _ _ _ bd2 bd2 bd2)) | ((with_reducible apply cF_new2 (by assumption)); (first | rintro _ _ ⟨rfl, rfl⟩ | rintro _ _ ⟨_, _, rfl, rfl⟩)) | with_reducible (first | apply X_regRS (id := 2) | apply X_regR (id := 2) | apply X_seqX (x := .seq (.region 2 _ false) _) | apply X_seqX (x := .seq (.seq (.region 2 _ false) _) _) | apply X_regRS (id := 3) | apply X_regR (id := 3) | apply X_seqX (x := .seq (.region 3 _ false) _) | apply X_seqX (x := .seq (.seq (.region 3 _ false) _) _) | apply X_regRS (id := 9) | apply X_regR (id := 9) | apply X_seqX (x := .seq (.region 9 _ false) _) | apply X_seqX (x := .seq (.seq (.region 9 _ false) _) _) | apply X_regRS (id := 11) | apply X_regR (id := 11) | apply X_seqX (x := .seq (.region 11 _ false) _) | apply X_seqX (x := .seq (.seq (.region 11 _ false) _) _) | apply X_regRS (id := 14) | apply X_regR (id := 14) | apply X_seqX (x := .seq (.region 14 _ false) _) | apply X_seqX (x := .seq (.seq (.region 14 _ false) _) _)) | (with_reducible apply X_drawM (id := 8) 2 [] (.cons 2 (.cons 3 (.cons 4 (.cons 5 (.cons 6 (.cons 7 (.cons 8 .nil .nil) .nil) (.cons 7 (.cons 6 (.cons 8 .nil .nil) .nil) .nil)) (.cons 7 (.cons 5 (.cons 6 (.cons 8 .nil .nil) .nil) .nil) .nil)) (.cons 7 (.cons 4 (.cons 5 (.cons 6 (.cons 8 .nil .nil) .nil) .nil) .nil) .nil)) (.cons 4 (.cons 3 (.cons 5 (.cons 6 (.cons 7 (.cons 8 .nil .nil) .nil) (.cons 7 (.cons 6 (.cons 8 .nil .nil) .nil) .nil)) (.cons 7 (.cons 5 (.cons 6 (.cons 8 .nil .nil) .nil) .nil) .nil)) (.cons 7 (.cons 3 (.cons 5 (.cons 6 (.cons 8 .nil .nil) .nil) .nil) .nil) .nil)) (.cons 7 (.cons 3 (.cons 4 (.cons 5 (.cons 6 (.cons 8 .nil .nil) .nil) .nil) .nil) (.cons 4 (.cons 3 (.cons 5 (.cons 6 (.cons 8 .nil .nil) .nil) .nil) .nil) .nil)) .nil))) (.cons 3 (.cons 2 (.cons 4 (.cons 5 (.cons 6 (.cons 7 (.cons 8 .nil .nil) .nil) (.cons 7 (.cons 6 (.cons 8 .nil .nil) .nil) .nil)) (.cons 7 (.cons 5 (.cons 6 (.cons 8 .nil .nil) .nil) .nil) .nil)) (.cons 7 (.cons 4 (.cons 5 (.cons 6 (.cons 8 .nil .nil) .nil) .nil) .nil) .nil)) (.cons 4 (.cons 2 (.cons 5 (.cons 6 (.cons 7 (.cons 8 .nil .nil) .nil) (.cons 7 (.cons 6 (.cons 8 .nil .nil) .nil) .nil)) (.cons 7 (.cons 5 (.cons 6 (.cons 8 .nil .nil) .nil) .nil) .nil)) (.cons 7 (.cons 2 (.cons 5 (.cons 6 (.cons 8 .nil .nil) .nil) .nil) .nil) .nil)) (.cons 7 (.cons 2 (.cons 4 (.cons 5 (.cons 6 (.cons 8 .nil .nil) .nil) .nil) .nil) (.cons 4 (.cons 2 (.cons 5 (.cons 6 (.cons 8 .nil .nil) .nil) .nil) .nil) .nil)) .nil))) (.cons 4 (.cons 2 (.cons 3 (.cons 5 (.cons 6 (.cons 7 (.cons 8 .nil .nil) .nil) (.cons 7 (.cons 6 (.cons 8 .nil .nil) .nil) .nil)) (.cons 7 (.cons 5 (.cons 6 (.cons 8 .nil .nil) .nil) .nil) .nil)) (.cons 7 (.cons 3 (.cons 5 (.cons 6 (.cons 8 .nil .nil) .nil) .nil) .nil) .nil)) (.cons 3 (.cons 2 (.cons 5 (.cons 6 (.cons 7 (.cons 8 .nil .nil) .nil) (.cons 7 (.cons 6 (.cons 8 .nil .nil) .nil) .nil)) (.cons 7 (.cons 5 (.cons 6 (.cons 8 .nil .nil) .nil) .nil) .nil)) (.cons 7 (.cons 2 (.cons 5 (.cons 6 (.cons 8 .nil .nil) .nil) .nil) .nil) .nil)) (.cons 7 (.cons 2 (.cons 3 (.cons 5 (.cons 6 (.cons 8 .nil .nil) .nil) .nil) .nil) (.cons 3 (.cons 2 (.cons 5 (.cons 6 (.cons 8 .nil .nil) .nil) .nil) .nil) .nil)) .nil))) (.cons 7 (.cons 2 (.cons 3 (.cons 4 (.cons 5 (.cons 6 (.cons 8 .nil .nil) .nil) .nil) .nil) (.cons 4 (.cons 3 (.cons 5 (.cons 6 (.cons 8 .nil .nil) .nil) .nil) .nil) .nil)) (.cons 3 (.cons 2 (.cons 4 (.cons 5 (.cons 6 (.cons 8 .nil .nil) .nil) .nil) .nil) (.cons 4 (.cons 2 (.cons 5 (.cons 6 (.cons 8 .nil .nil) .nil) .nil) .nil) .nil)) (.cons 4 (.cons 2 (.cons 3 (.cons 5 (.cons 6 (.cons 8 .nil .nil) .nil) .nil) .nil) (.cons 3 (.cons 2 (.cons 5 (.cons 6 (.cons 8 .nil .nil) .nil) .nil) .nil) .nil)) .nil))) .nil)))); (next => (kernel_rfl)); (next => (kernel_rfl))) | (with_reducible apply X_drawM (id := 10) 2 [] (.cons 2 (.cons 3 (.cons 4 (.cons 5 (.cons 6 (.cons 7 (.cons 8 .nil .nil) .nil) (.cons 7 (.cons 6 (.cons 8 .nil .nil) .nil) .nil)) (.cons 7 (.cons 5 (.cons 6 (.cons 8 .nil .nil) .nil) .nil) .nil)) (.cons 7 (.cons 4 (.cons 5 (.cons 6 (.cons 8 .nil .nil) .nil) .nil) .nil) .nil)) (.cons 4 (.cons 3 (.cons 5 (.cons 6 (.cons 7 (.cons 8 .nil .nil) .nil) (.cons 7 (.cons 6 (.cons 8 .nil .nil) .nil) .nil)) (.cons 7 (.cons 5 (.cons 6 (.cons 8 .nil .nil) .nil) .nil) .nil)) (.cons 7 (.cons 3 (.cons 5 (.cons 6 (.cons 8 .nil .nil) .nil) .nil) .nil) .nil)) (.cons 7 (.cons 3 (.cons 4 (.cons 5 (.cons 6 (.cons 8 .nil .nil) .nil) .nil) .nil) (.cons 4 (.cons 3 (.cons 5 (.cons 6 (.cons 8 .nil .nil) .nil) .nil) .nil) .nil)) .nil))) (.cons 3 (.cons 2 (.cons 4 (.cons 5 (.cons 6 (.cons 7 (.cons 8 .nil .nil) .nil) (.cons 7 (.cons 6 (.cons 8 .nil .nil) .nil) .nil)) (.cons 7 (.cons 5 (.cons 6 (.cons 8 .nil .nil) .nil) .nil) .nil)) (.cons 7 (.cons 4 (.cons 5 (.cons 6 (.cons 8 .nil .nil) .nil) .nil) .nil) .nil)) (.cons 4 (.cons 2 (.cons 5 (.cons 6 (.cons 7 (.cons 8 .nil .nil) .nil) (.cons 7 (.cons 6 (.cons 8 .nil .nil) .nil) .nil)) (.cons 7 (.cons 5 (.cons 6 (.cons 8 .nil .nil) .nil) .nil) .nil)) (.cons 7 (.cons 2 (.cons 5 (.cons 6 (.cons 8 .nil .nil) .nil) .nil) .nil) .nil)) (.cons 7 (.cons 2 (.cons 4 (.cons 5 (.cons 6 (.cons 8 .nil .nil) .nil) .nil) .nil) (.cons 4 (.cons 2 (.cons 5 (.cons 6 (.cons 8 .nil .nil) .nil) .nil) .nil) .nil)) .nil))) (.cons 4 (.cons 2 (.cons 3 (.cons 5 (.cons 6 (.cons 7 (.cons 8 .nil .nil) .nil) (.cons 7 (.cons 6 (.cons 8 .nil .nil) .nil) .nil)) (.cons 7 (.cons 5 (.cons 6 (.cons 8 .nil .nil) .nil) .nil) .nil)) (.cons 7 (.cons 3 (.cons 5 (.cons 6 (.cons 8 .nil .nil) .nil) .nil) .nil) .nil)) (.cons 3 (.cons 2 (.cons 5 (.cons 6 (.cons 7 (.cons 8 .nil .nil) .nil) (.cons 7 (.cons 6 (.cons 8 .nil .nil) .nil) .nil)) (.cons 7 (.cons 5 (.cons 6 (.cons 8 .nil .nil) .nil) .nil) .nil)) (.cons 7 (.cons 2 (.cons 5 (.cons 6 (.cons 8 .nil .nil) .nil) .nil) .nil) .nil)) (.cons 7 (.cons 2 (.cons 3 (.cons 5 (.cons 6 (.cons 8 .nil .nil) .nil) .nil) .nil) (.cons 3 (.cons 2 (.cons 5 (.cons 6 (.cons 8 .nil .nil) .nil) .nil) .nil) .nil)) .nil))) (.cons 7 (.cons 2 (.cons 3 (.cons 4 (.cons 5 (.cons 6 (.cons 8 .nil .nil) .nil) .nil) .nil) (.cons 4 (.cons 3 (.cons 5 (.cons 6 (.cons 8 .nil .nil) .nil) .nil) .nil) .nil)) (.cons 3 (.cons 2 (.cons 4 (.cons 5 (.cons 6 (.cons 8 .nil .nil) .nil) .nil) .nil) (.cons 4 (.cons 2 (.cons 5 (.cons 6 (.cons 8 .nil .nil) .nil) .nil) .nil) .nil)) (.cons 4 (.cons 2 (.cons 3 (.cons 5 (.cons 6 (.cons 8 .nil .nil) .nil) .nil) .nil) (.cons 3 (.cons 2 (.cons 5 (.cons 6 (.cons 8 .nil .nil) .nil) .nil) .nil) .nil)) .nil))) .nil)))); (next => (kernel_rfl)); (next => (kernel_rfl))) | refine X_of _ ?_ | with_reducible (first | exact ⟨_, rfl⟩ | refine And.intro ?_ ?_ | intro _)) <;> try simp -implicitDefEqProofs (maxSteps := 1000000) (disch := first | exact dz2 | fail) only [vcR, vcT, Int.reduceBEq, Int.reduceBNe, Int.reduceEq, Int.reduceNe, Ab.part, Nat.reduceAdd, Nat.reduceMul, Nat.reduceLeDiff, Nat.reduceEqDiff, Nat.reduceBEq, Nat.reduceBNe, reduceCtorEq, ↓reduceIte, implies_true, forall_const, Int.reduceNeg, Int.reduceToNat, Int.reduceLT, Int.reduceLE, Int.reduceAdd, Int.reduceSub, Int.reduceMul, Int.reducePow, Nat.reducePow, true_or, Option.isNone_some, Option.isNone_none, vcXGb, Tryd.f8, List.toList_toArray, arr4_zero, nat4_set1, nat4_setL, nat4_set0]))
  refine yF_small (h0 := 2) hsm rfl (fun _ h => h) rfl ?_
  intro n0 A H1 hn1 hn5 hLi hd hA hN0
  obtain ⟨N, hN⟩ : ∃ N, A.length = N := ⟨_, rfl⟩
  rw [hN] at hN0
  have hk0 : ∀ {B : Heap}, (A ++ B)[0]? = some ⟨24, nat4 n⟩ := by obtain ⟨X, rfl⟩ := hA; intro B; rfl
  have hk1 : ∀ {B : Heap}, (A ++ B)[1]? = some ⟨24, nat4 c⟩ := by obtain ⟨X, rfl⟩ := hA; intro B; rfl
  have q0 : ∀ {B : Heap}, (A ++ B)[N]? = B[0]? := fun {B} => end0 hN
  have qs : ∀ {B : Heap} {t : Nat} {cs cs' : List SV}, putH (A ++ ⟨t, cs⟩ :: B) N cs' = A ++ ⟨t, cs'⟩ :: B := fun {B t cs cs'} => end_put hN
  clear hA
  try simp -implicitDefEqProofs (maxSteps := 1000000) (disch := first | exact dz2 | fail) only [vcR, vcT, Int.reduceBEq, Int.reduceBNe, Int.reduceEq, Int.reduceNe, Ab.part, Nat.reduceAdd, Nat.reduceMul, Nat.reduceLeDiff, Nat.reduceEqDiff, Nat.reduceBEq, Nat.reduceBNe, reduceCtorEq, ↓reduceIte, implies_true, forall_const, Int.reduceNeg, Int.reduceToNat, Int.reduceLT, Int.reduceLE, Int.reduceAdd, Int.reduceSub, Int.reduceMul, Int.reducePow, Nat.reducePow, true_or, Option.isNone_some, Option.isNone_none, vcXGb, Tryd.f8, List.toList_toArray, hN,q0,qs,hk0,hk1]
  (repeat' ((first | with_reducible (first | apply XR_cons | apply XR_consG | apply XR_nil | apply XM_cons | apply XM_consG | apply XM_nil | apply cF_pure2 (by assumption) | apply cM_pure2 (by assumption) | apply cF_ev2 (by assumption) | apply cM_ev2 (by assumption) | apply cF_ev2 (plus_e _ _ _ _ bd2 bd2 bd2) | apply cM_ev2 (plus_e _ _ _ _ bd2 bd2 bd2) | apply cF_ev2 (times_e _ _ _ _ bd2 bd2 bd2) | apply cM_ev2 (times_e _ _ _ _ bd2 bd2 bd2)) | ((with_reducible apply cF_new2 (by assumption)); (first | rintro _ _ ⟨rfl, rfl⟩ | rintro _ _ ⟨_, _, rfl, rfl⟩)) | with_reducible (first | apply X_regRS (id := 2) | apply X_regR (id := 2) | apply X_seqX (x := .seq (.region 2 _ false) _) | apply X_seqX (x := .seq (.seq (.region 2 _ false) _) _) | apply X_regRS (id := 3) | apply X_regR (id := 3) | apply X_seqX (x := .seq (.region 3 _ false) _) | apply X_seqX (x := .seq (.seq (.region 3 _ false) _) _) | apply X_regRS (id := 9) | apply X_regR (id := 9) | apply X_seqX (x := .seq (.region 9 _ false) _) | apply X_seqX (x := .seq (.seq (.region 9 _ false) _) _) | apply X_regRS (id := 11) | apply X_regR (id := 11) | apply X_seqX (x := .seq (.region 11 _ false) _) | apply X_seqX (x := .seq (.seq (.region 11 _ false) _) _) | apply X_regRS (id := 14) | apply X_regR (id := 14) | apply X_seqX (x := .seq (.region 14 _ false) _) | apply X_seqX (x := .seq (.seq (.region 14 _ false) _) _)) | (with_reducible apply X_drawM (id := 8) 2 [] (.cons 2 (.cons 3 (.cons 4 (.cons 5 (.cons 6 (.cons 7 (.cons 8 .nil .nil) .nil) (.cons 7 (.cons 6 (.cons 8 .nil .nil) .nil) .nil)) (.cons 7 (.cons 5 (.cons 6 (.cons 8 .nil .nil) .nil) .nil) .nil)) (.cons 7 (.cons 4 (.cons 5 (.cons 6 (.cons 8 .nil .nil) .nil) .nil) .nil) .nil)) (.cons 4 (.cons 3 (.cons 5 (.cons 6 (.cons 7 (.cons 8 .nil .nil) .nil) (.cons 7 (.cons 6 (.cons 8 .nil .nil) .nil) .nil)) (.cons 7 (.cons 5 (.cons 6 (.cons 8 .nil .nil) .nil) .nil) .nil)) (.cons 7 (.cons 3 (.cons 5 (.cons 6 (.cons 8 .nil .nil) .nil) .nil) .nil) .nil)) (.cons 7 (.cons 3 (.cons 4 (.cons 5 (.cons 6 (.cons 8 .nil .nil) .nil) .nil) .nil) (.cons 4 (.cons 3 (.cons 5 (.cons 6 (.cons 8 .nil .nil) .nil) .nil) .nil) .nil)) .nil))) (.cons 3 (.cons 2 (.cons 4 (.cons 5 (.cons 6 (.cons 7 (.cons 8 .nil .nil) .nil) (.cons 7 (.cons 6 (.cons 8 .nil .nil) .nil) .nil)) (.cons 7 (.cons 5 (.cons 6 (.cons 8 .nil .nil) .nil) .nil) .nil)) (.cons 7 (.cons 4 (.cons 5 (.cons 6 (.cons 8 .nil .nil) .nil) .nil) .nil) .nil)) (.cons 4 (.cons 2 (.cons 5 (.cons 6 (.cons 7 (.cons 8 .nil .nil) .nil) (.cons 7 (.cons 6 (.cons 8 .nil .nil) .nil) .nil)) (.cons 7 (.cons 5 (.cons 6 (.cons 8 .nil .nil) .nil) .nil) .nil)) (.cons 7 (.cons 2 (.cons 5 (.cons 6 (.cons 8 .nil .nil) .nil) .nil) .nil) .nil)) (.cons 7 (.cons 2 (.cons 4 (.cons 5 (.cons 6 (.cons 8 .nil .nil) .nil) .nil) .nil) (.cons 4 (.cons 2 (.cons 5 (.cons 6 (.cons 8 .nil .nil) .nil) .nil) .nil) .nil)) .nil))) (.cons 4 (.cons 2 (.cons 3 (.cons 5 (.cons 6 (.cons 7 (.cons 8 .nil .nil) .nil) (.cons 7 (.cons 6 (.cons 8 .nil .nil) .nil) .nil)) (.cons 7 (.cons 5 (.cons 6 (.cons 8 .nil .nil) .nil) .nil) .nil)) (.cons 7 (.cons 3 (.cons 5 (.cons 6 (.cons 8 .nil .nil) .nil) .nil) .nil) .nil)) (.cons 3 (.cons 2 (.cons 5 (.cons 6 (.cons 7 (.cons 8 .nil .nil) .nil) (.cons 7 (.cons 6 (.cons 8 .nil .nil) .nil) .nil)) (.cons 7 (.cons 5 (.cons 6 (.cons 8 .nil .nil) .nil) .nil) .nil)) (.cons 7 (.cons 2 (.cons 5 (.cons 6 (.cons 8 .nil .nil) .nil) .nil) .nil) .nil)) (.cons 7 (.cons 2 (.cons 3 (.cons 5 (.cons 6 (.cons 8 .nil .nil) .nil) .nil) .nil) (.cons 3 (.cons 2 (.cons 5 (.cons 6 (.cons 8 .nil .nil) .nil) .nil) .nil) .nil)) .nil))) (.cons 7 (.cons 2 (.cons 3 (.cons 4 (.cons 5 (.cons 6 (.cons 8 .nil .nil) .nil) .nil) .nil) (.cons 4 (.cons 3 (.cons 5 (.cons 6 (.cons 8 .nil .nil) .nil) .nil) .nil) .nil)) (.cons 3 (.cons 2 (.cons 4 (.cons 5 (.cons 6 (.cons 8 .nil .nil) .nil) .nil) .nil) (.cons 4 (.cons 2 (.cons 5 (.cons 6 (.cons 8 .nil .nil) .nil) .nil) .nil) .nil)) (.cons 4 (.cons 2 (.cons 3 (.cons 5 (.cons 6 (.cons 8 .nil .nil) .nil) .nil) .nil) (.cons 3 (.cons 2 (.cons 5 (.cons 6 (.cons 8 .nil .nil) .nil) .nil) .nil) .nil)) .nil))) .nil)))); (next => (kernel_rfl)); (next => (kernel_rfl))) | (with_reducible apply X_drawM (id := 10) 2 [] (.cons 2 (.cons 3 (.cons 4 (.cons 5 (.cons 6 (.cons 7 (.cons 8 .nil .nil) .nil) (.cons 7 (.cons 6 (.cons 8 .nil .nil) .nil) .nil)) (.cons 7 (.cons 5 (.cons 6 (.cons 8 .nil .nil) .nil) .nil) .nil)) (.cons 7 (.cons 4 (.cons 5 (.cons 6 (.cons 8 .nil .nil) .nil) .nil) .nil) .nil)) (.cons 4 (.cons 3 (.cons 5 (.cons 6 (.cons 7 (.cons 8 .nil .nil) .nil) (.cons 7 (.cons 6 (.cons 8 .nil .nil) .nil) .nil)) (.cons 7 (.cons 5 (.cons 6 (.cons 8 .nil .nil) .nil) .nil) .nil)) (.cons 7 (.cons 3 (.cons 5 (.cons 6 (.cons 8 .nil .nil) .nil) .nil) .nil) .nil)) (.cons 7 (.cons 3 (.cons 4 (.cons 5 (.cons 6 (.cons 8 .nil .nil) .nil) .nil) .nil) (.cons 4 (.cons 3 (.cons 5 (.cons 6 (.cons 8 .nil .nil) .nil) .nil) .nil) .nil)) .nil))) (.cons 3 (.cons 2 (.cons 4 (.cons 5 (.cons 6 (.cons 7 (.cons 8 .nil .nil) .nil) (.cons 7 (.cons 6 (.cons 8 .nil .nil) .nil) .nil)) (.cons 7 (.cons 5 (.cons 6 (.cons 8 .nil .nil) .nil) .nil) .nil)) (.cons 7 (.cons 4 (.cons 5 (.cons 6 (.cons 8 .nil .nil) .nil) .nil) .nil) .nil)) (.cons 4 (.cons 2 (.cons 5 (.cons 6 (.cons 7 (.cons 8 .nil .nil) .nil) (.cons 7 (.cons 6 (.cons 8 .nil .nil) .nil) .nil)) (.cons 7 (.cons 5 (.cons 6 (.cons 8 .nil .nil) .nil) .nil) .nil)) (.cons 7 (.cons 2 (.cons 5 (.cons 6 (.cons 8 .nil .nil) .nil) .nil) .nil) .nil)) (.cons 7 (.cons 2 (.cons 4 (.cons 5 (.cons 6 (.cons 8 .nil .nil) .nil) .nil) .nil) (.cons 4 (.cons 2 (.cons 5 (.cons 6 (.cons 8 .nil .nil) .nil) .nil) .nil) .nil)) .nil))) (.cons 4 (.cons 2 (.cons 3 (.cons 5 (.cons 6 (.cons 7 (.cons 8 .nil .nil) .nil) (.cons 7 (.cons 6 (.cons 8 .nil .nil) .nil) .nil)) (.cons 7 (.cons 5 (.cons 6 (.cons 8 .nil .nil) .nil) .nil) .nil)) (.cons 7 (.cons 3 (.cons 5 (.cons 6 (.cons 8 .nil .nil) .nil) .nil) .nil) .nil)) (.cons 3 (.cons 2 (.cons 5 (.cons 6 (.cons 7 (.cons 8 .nil .nil) .nil) (.cons 7 (.cons 6 (.cons 8 .nil .nil) .nil) .nil)) (.cons 7 (.cons 5 (.cons 6 (.cons 8 .nil .nil) .nil) .nil) .nil)) (.cons 7 (.cons 2 (.cons 5 (.cons 6 (.cons 8 .nil .nil) .nil) .nil) .nil) .nil)) (.cons 7 (.cons 2 (.cons 3 (.cons 5 (.cons 6 (.cons 8 .nil .nil) .nil) .nil) .nil) (.cons 3 (.cons 2 (.cons 5 (.cons 6 (.cons 8 .nil .nil) .nil) .nil) .nil) .nil)) .nil))) (.cons 7 (.cons 2 (.cons 3 (.cons 4 (.cons 5 (.cons 6 (.cons 8 .nil .nil) .nil) .nil) .nil) (.cons 4 (.cons 3 (.cons 5 (.cons 6 (.cons 8 .nil .nil) .nil) .nil) .nil) .nil)) (.cons 3 (.cons 2 (.cons 4 (.cons 5 (.cons 6 (.cons 8 .nil .nil) .nil) .nil) .nil) (.cons 4 (.cons 2 (.cons 5 (.cons 6 (.cons 8 .nil .nil) .nil) .nil) .nil) .nil)) (.cons 4 (.cons 2 (.cons 3 (.cons 5 (.cons 6 (.cons 8 .nil .nil) .nil) .nil) .nil) (.cons 3 (.cons 2 (.cons 5 (.cons 6 (.cons 8 .nil .nil) .nil) .nil) .nil) .nil)) .nil))) .nil)))); (next => (kernel_rfl)); (next => (kernel_rfl))) | refine X_of _ ?_ | with_reducible (first | exact ⟨_, rfl⟩ | refine And.intro ?_ ?_ | intro _)) <;> try simp -implicitDefEqProofs (maxSteps := 1000000) (disch := first | exact dz2 | fail) only [vcR, vcT, Int.reduceBEq, Int.reduceBNe, Int.reduceEq, Int.reduceNe, Ab.part, Nat.reduceAdd, Nat.reduceMul, Nat.reduceLeDiff, Nat.reduceEqDiff, Nat.reduceBEq, Nat.reduceBNe, reduceCtorEq, ↓reduceIte, implies_true, forall_const, Int.reduceNeg, Int.reduceToNat, Int.reduceLT, Int.reduceLE, Int.reduceAdd, Int.reduceSub, Int.reduceMul, Int.reducePow, Nat.reducePow, true_or, Option.isNone_some, Option.isNone_none, vcXGb, Tryd.f8, List.toList_toArray, arr4_zero, nat4_set1, nat4_setL, nat4_set0, hN,q0,qs,hk0,hk1]))
  refine yF_new hLi hn5 hd hN hok.gr hgv rfl (fun _ h => h) ?_
  intro bx bq
  (try (first | with_reducible refine X_regRS ?_ | with_reducible refine X_regR ?_ | (with_reducible refine X_seqX ?_; with_reducible refine X_blockX ?_; with_reducible refine X_regR ?_))); (repeat ((first | with_reducible refine XR_make ?_ | with_reducible refine XR_append ?_ | with_reducible refine XR_cons ?_ | with_reducible refine XR_consG ?_ | with_reducible refine XR_nil ?_); try simp -implicitDefEqProofs (maxSteps := 1000000) (disch := first | exact dz2 | fail) only [vcR, vcT, Int.reduceBEq, Int.reduceBNe, Int.reduceEq, Int.reduceNe, Ab.part, Nat.reduceAdd, Nat.reduceMul, Nat.reduceLeDiff, Nat.reduceEqDiff, Nat.reduceBEq, Nat.reduceBNe, reduceCtorEq, ↓reduceIte, implies_true, forall_const, Int.reduceNeg, Int.reduceToNat, Int.reduceLT, Int.reduceLE, Int.reduceAdd, Int.reduceSub, Int.reduceMul, Int.reducePow, Nat.reducePow, true_or, Option.isNone_some, Option.isNone_none, vcXGb, Tryd.f8, List.toList_toArray, hN,q0,qs,hk0,hk1]))
  refine X_grp (N + 1) (N + 2) (N + 3) [0, 1, N] ((endk hN (k := 1)).trans rfl) ((endk hN (k := 2)).trans rfl) ((endk hN (k := 3)).trans rfl) hok.gr.1 hok.gr.2.1 (by decide) (by simp; try omega) (by simp; try omega) (fun i hi => by rw [end_len hN]; simp at hi ⊢; omega) (by simp only [pickH_cons, pickH_nil, consH_some, List.getElem?_cons_zero, hN, q0, qs, hk0, hk1]; simp) fun β1 w1 hR1 hG hK => ?_
  have hz0 : ¬ N = 0 := by omega
  have hy0 : ¬ 0 = N := by omega
  have hz1 : ¬ N = 1 := by omega
  have hy1 : ¬ 1 = N := by omega
  have hM1 : ¬ N + 1 = 1 := by omega
  have hy2 : ¬ 2 = N := by omega
  have hMN : ¬ N + 1 = N := by omega
  have hO := gv_one hpre hR1 (L := [0, 1, N]) (fun i hi => by rw [end_len hN]; simp at hi ⊢; omega)
  clear hR1 hK hLi hd hgv hpre
  simp -implicitDefEqProofs (maxSteps := 1000000) (disch := first | exact dz2 | fail) only [vcR, vcT, Int.reduceBEq, Int.reduceBNe, Int.reduceEq, Int.reduceNe, Ab.part, Nat.reduceAdd, Nat.reduceMul, Nat.reduceLeDiff, Nat.reduceEqDiff, Nat.reduceBEq, Nat.reduceBNe, reduceCtorEq, ↓reduceIte, implies_true, forall_const, Int.reduceNeg, Int.reduceToNat, Int.reduceLT, Int.reduceLE, Int.reduceAdd, Int.reduceSub, Int.reduceMul, Int.reducePow, Nat.reducePow, true_or, Option.isNone_some, Option.isNone_none, vcXGb, Tryd.f8, List.toList_toArray, hN,q0,qs,hk0,hk1,hz0,hy0,hz1,hy1,hM1,hy2,hMN]
  obtain ⟨k, hk⟩ : ∃ k, β1 (N + 1) = k := ⟨_, rfl⟩
  obtain ⟨kx, hkx⟩ : ∃ k, β1 (N + 2) = k := ⟨_, rfl⟩
  obtain ⟨kq, hkq⟩ : ∃ k, β1 (N + 3) = k := ⟨_, rfl⟩
  rw [hk, hkx, hkq] at hG
  have hOP := hok.gr.1
  have hOQ := hok.gr.2.1
  have hP2 := hOP.lt
  have hQ2 := hOQ.lt
  have hP1 : 1 < P := hOP.gt
  have hQ0 : 0 < Q := hOQ.pos
  have hg1 : 4 ^ Q % P = 1 := hok.gr.2.2.2.2.2.2
  clear hN0 hn1 hn5 hsm haw hN q0 qs hk0 hz0 hy0 hk1 hz1 hy1 hM1 hy2 hMN
  try simp -implicitDefEqProofs (maxSteps := 1000000) (disch := first | exact dz2 | fail) only [vcR, vcT, Int.reduceBEq, Int.reduceBNe, Int.reduceEq, Int.reduceNe, Ab.part, Nat.reduceAdd, Nat.reduceMul, Nat.reduceLeDiff, Nat.reduceEqDiff, Nat.reduceBEq, Nat.reduceBNe, reduceCtorEq, ↓reduceIte, implies_true, forall_const, Int.reduceNeg, Int.reduceToNat, Int.reduceLT, Int.reduceLE, Int.reduceAdd, Int.reduceSub, Int.reduceMul, Int.reducePow, Nat.reducePow, true_or, Option.isNone_some, Option.isNone_none, vcXGb, Tryd.f8, List.toList_toArray, hk,hkx,hkq]
  clear hkx hkq
  have hr2 : 4 ^ n % P < 2 ^ 256 := hOP.mod_lt
  have hs2 : 4 ^ c % P < 2 ^ 256 := hOP.mod_lt
  have hmr := mem_pow (n := n) hP1 hQ0 hg1
  have hms := mem_pow (n := c) hP1 hQ0 hg1
  have e1 := gBase_e k kx kq P Q 4 n (by decide) hn
  have e2 := gBase_e k kx kq P Q 4 c (by decide) hc
  have e3 := gQ_e k kx kq P Q 4
  have e4 := plus_e kq Q n c hOQ hn hc
  have e5 := gBase_e k kx kq P Q 4 ((n + c) % Q) (by decide) hOQ.mod_lt
  have e6 := gTimes_e k kx kq P Q 4 (4 ^ n % P) (4 ^ c % P) hP2 hQ2 hr2 hs2
  have e7 := times_e kq Q n c hOQ hn hc
  have e8 := gBase_e k kx kq P Q 4 (n * c % Q) (by decide) hOQ.mod_lt
  have e9 := gExp_e k kx kq P Q 4 (4 ^ n % P) c hP2 hQ2 hr2 hc
  have e10 := gMember_e k kx kq P Q 4 (4 ^ n % P) hP2 hQ2 hr2
  have e11 := gBase_e k kx kq P Q 4 Q (by decide) hQ2
  rw [sum_law hP1 hg1] at e5
  rw [prod_law hP1 hg1] at e8
  rw [tmV hmr hms, tmE1 hmr hms] at e6
  rw [exV hmr, exE1 hmr] at e9
  rw [hmr] at e10
  rw [hg1] at e11
  have hu2 : (n + c) % Q < 2 ^ 256 := hOQ.mod_lt
  have hv2 : n * c % Q < 2 ^ 256 := hOQ.mod_lt
  obtain ⟨u, hu⟩ : ∃ u, (n + c) % Q = u := ⟨_, rfl⟩
  obtain ⟨v, hv⟩ : ∃ v, n * c % Q = v := ⟨_, rfl⟩
  have ht2 : 4 ^ n % P * (4 ^ c % P) % P < 2 ^ 256 := hOP.mod_lt
  have hy2 : (4 ^ n % P) ^ c % P < 2 ^ 256 := hOP.mod_lt
  obtain ⟨t, ht⟩ : ∃ t, 4 ^ n % P * (4 ^ c % P) % P = t := ⟨_, rfl⟩
  obtain ⟨y, hy⟩ : ∃ y, (4 ^ n % P) ^ c % P = y := ⟨_, rfl⟩
  rw [hu] at e4 e5 hu2
  rw [hv] at e7 e8 hv2
  rw [ht] at e5 e6 ht2
  rw [hy] at e8 e9 hy2
  obtain ⟨r, hr⟩ : ∃ r, 4 ^ n % P = r := ⟨_, rfl⟩
  obtain ⟨s, hs⟩ : ∃ s, 4 ^ c % P = s := ⟨_, rfl⟩
  rw [hr] at e1 e6 e9 e10 hr2
  rw [hs] at e2 e6 hs2
  have hMQ : Kn ((ctx0 Tryd.prog w).after (modEvo 108) w.heap.size w1 β1 [0, 1, N]) (isMod 108 kq Q) := hG.gmq
  clear hmr hms hg1 hu hv ht hy hr hs hok
  (repeat' ((first | with_reducible (first | apply XR_cons | apply XR_consG | apply XR_nil | apply XM_cons | apply XM_consG | apply XM_nil | apply cF_pure2 (by assumption) | apply cM_pure2 (by assumption) | apply cF_ev2 (by assumption) | apply cM_ev2 (by assumption)) | ((with_reducible apply cF_new2 (by assumption)); (first | rintro _ _ ⟨rfl, rfl⟩ | rintro _ _ ⟨_, _, rfl, rfl⟩)) | with_reducible (first | apply X_regRS (id := 2) | apply X_regR (id := 2) | apply X_seqX (x := .seq (.region 2 _ false) _) | apply X_seqX (x := .seq (.seq (.region 2 _ false) _) _) | apply X_regRS (id := 3) | apply X_regR (id := 3) | apply X_seqX (x := .seq (.region 3 _ false) _) | apply X_seqX (x := .seq (.seq (.region 3 _ false) _) _) | apply X_regRS (id := 9) | apply X_regR (id := 9) | apply X_seqX (x := .seq (.region 9 _ false) _) | apply X_seqX (x := .seq (.seq (.region 9 _ false) _) _) | apply X_regRS (id := 11) | apply X_regR (id := 11) | apply X_seqX (x := .seq (.region 11 _ false) _) | apply X_seqX (x := .seq (.seq (.region 11 _ false) _) _) | apply X_regRS (id := 14) | apply X_regR (id := 14) | apply X_seqX (x := .seq (.region 14 _ false) _) | apply X_seqX (x := .seq (.seq (.region 14 _ false) _) _)) | (with_reducible apply X_drawM (id := 8) 7 [] (.cons 7 (.cons 8 .nil .nil) .nil); (next => (kernel_rfl)); (next => (kernel_rfl))) | (with_reducible apply X_drawM (id := 10) 7 [] (.cons 7 (.cons 8 .nil .nil) .nil); (next => (kernel_rfl)); (next => (kernel_rfl))) | refine X_of _ ?_ | with_reducible (first | exact ⟨_, rfl⟩ | refine And.intro ?_ ?_ | intro _)) <;> try simp -implicitDefEqProofs (maxSteps := 1000000) (disch := first | exact dz2 | fail) only [vcR, vcT, Int.reduceBEq, Int.reduceBNe, Int.reduceEq, Int.reduceNe, Ab.part, Nat.reduceAdd, Nat.reduceMul, Nat.reduceLeDiff, Nat.reduceEqDiff, Nat.reduceBEq, Nat.reduceBNe, reduceCtorEq, ↓reduceIte, implies_true, forall_const, Int.reduceNeg, Int.reduceToNat, Int.reduceLT, Int.reduceLE, Int.reduceAdd, Int.reduceSub, Int.reduceMul, Int.reducePow, Nat.reducePow, true_or, Option.isNone_some, Option.isNone_none, vcXGb, Tryd.f8, List.toList_toArray, arr4_zero, nat4_set1, nat4_setL, nat4_set0, hk]))
end Go.Proofs.YtdmcknmjdlghgaaDoor
