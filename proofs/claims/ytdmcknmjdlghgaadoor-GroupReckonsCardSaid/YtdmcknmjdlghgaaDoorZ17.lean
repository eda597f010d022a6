/-
  GroupReckons: members, powers, products are as the document says.
-/
import Derived.WalkKit
import Derived.StillTail
import Derived.Deep.MidRow
import Derived.DeepKeys
import Derived.Deep.LoopGhost
import Derived.Deep.Quiet
import Derived.Laws.AppendOwn
import Derived.Laws.MakeOwn
import Derived.Laws.Cover3
import Derived.Laws.IdiomCopy
import Derived.Laws.CopyRow
import Derived.Laws.BitsAllLaws
import Derived.Laws.Bits128
import Derived.Lib.BitFns
import Derived.DeepKeys3
import Derived.MapKept
import Derived.Test.YtdmcknmjdlghgaaDoorProg
import Derived.Shelf.Bits.Mul64
import Derived.Shelf.Strconv.Itoa0
import Derived.Shelf.Spec.BitsCarry
import Derived.Tactics
import Derived.Tactics2
import Derived.Defers
import Derived.Laws.Pointers
import Derived.Laws.LoneSync
import Derived.RegionTactic
import Derived.RegionCalls
import Derived.ChangeAlike
import Derived.KernelRfl
import Derived.Laws.NewBlocks
import Derived.Test.YtdmcknmjdlghgaaDoorZ01
import Derived.Test.YtdmcknmjdlghgaaDoorZ02
import Derived.Test.YtdmcknmjdlghgaaDoorZ03
import Derived.Test.YtdmcknmjdlghgaaDoorZ04
import Derived.Test.YtdmcknmjdlghgaaDoorZ07
import Derived.Test.YtdmcknmjdlghgaaDoorZ09
import Derived.Test.YtdmcknmjdlghgaaDoorZ15
import Derived.Test.YtdmcknmjdlghgaaDoorZ16
namespace Go.Proofs.YtdmcknmjdlghgaaDoor
open Go Go.Ab
set_option linter.unusedSimpArgs false
set_option linter.unusedVariables false
set_option linter.defProp false
set_option maxHeartbeats 20000000
set_option maxRecDepth 100000

theorem muV_lt {P : Nat} (h : OddM P) (Q n m : Nat) (a b : Nat → Nat) : muV P Q n m a b < 2 ^ 256 := by
  unfold muV
  split
  · exact mulS_lt h a b n
  · decide


theorem groupReckons_m (z : Int) (hz : IntKind.i64.min ≤ z ∧ z ≤ IntKind.i64.max) (a : Nat) (ha : a < 2 ^ 256) (b : Nat) (hb : b < 2 ^ 256) (n : Nat) (hn : n < 2 ^ 256)
    (x : Option Addr) (p c : Nat) (l : Nat → Nat) (hl : ∀ i, l i < 2 ^ 256) (hp : p < 9223372036854775808) (hpc : p ≤ c) (y : Option Addr) (q d : Nat) (e : Nat → Nat) (he : ∀ i, e i < 2 ^ 256) (hq : q < 9223372036854775808) (hqd : q ≤ d) :
    PureM Tryd.prog 5 [.s (.v (.int .i64 z)), .agg (nat4 a), .agg (nat4 b), .agg (nat4 n), .s (.v (.slice x p c)), .s (.v (.slice y q d))] (fun w => natsAt (modEvo 108) x p l w.heap.size w ∧ natsAt (modEvo 108) y q e w.heap.size w ∧ gv w) (.s (.v (.bool true))) := by
  clear hz
  have hsm := small_g z
  have hok := sm_ok z
  obtain ⟨P, hP⟩ : ∃ P, smP z = P := ⟨_, rfl⟩
  obtain ⟨Q, hQ⟩ : ∃ Q, smQ z = Q := ⟨_, rfl⟩
  rw [hP, hQ] at hsm hok
  clear hP hQ
  have haw := gawake_m.ev (V := Evo.none)
  (refine pureM_of Tryd.func5 rfl (by simp only [List.length_cons, List.length_nil, List.map_cons, List.map_nil, List.nodup_cons, List.nodup_nil, List.mem_cons, Nat.reduceAdd, Nat.reduceEqDiff, or_false, not_false_eq_true, forall_eq_or_imp, forall_eq, or_self, Nat.reduceLT, Nat.reduceLeDiff, and_self, List.forall_mem_cons, List.not_mem_nil, false_implies, implies_true, and_true, true_and, vcOGb]) (by simp only [List.length_cons, List.length_nil, List.map_cons, List.map_nil, List.nodup_cons, List.nodup_nil, List.mem_cons, Nat.reduceAdd, Nat.reduceEqDiff, or_false, not_false_eq_true, forall_eq_or_imp, forall_eq, or_self, Nat.reduceLT, Nat.reduceLeDiff, and_self, List.forall_mem_cons, List.not_mem_nil, false_implies, implies_true, and_true, true_and, vcOGb]) fun w hpre => ?_; simp only [List.length_cons, List.length_nil, Tryd.ntmps5, Nat.reduceAdd, Nat.reduceSub, List.replicate_succ, List.replicate_zero, List.cons_append, List.nil_append])
  have hgv := gv_kn (P0 := Tryd.prog) hpre.2.2
  (repeat' ((first | with_reducible (first | apply XQ_cons | apply XQ_consG | apply XQ_nil | apply XR_cons | apply XR_consG | apply XR_nil | apply cF_pure2 (by assumption) | apply cV_pure2 (by assumption) | apply cF_ev2 (by assumption) | apply cV_ev2 (by assumption) | apply cF_pure2 (rmpow_c _ _ _ bd2 bd2 bd2) | apply cV_pure2 (rmpow_c _ _ _ bd2 bd2 bd2)) | ((with_reducible apply cF_new2 (by assumption)); (first | rintro _ _ ⟨rfl, rfl⟩ | rintro _ _ ⟨_, _, rfl, rfl⟩)) | with_reducible (first | apply X_regRS (id := 2) | apply X_regR (id := 2) | apply X_seqX (x := .seq (.region 2 _ false) _) | apply X_seqX (x := .seq (.seq (.region 2 _ false) _) _) | apply X_regRS (id := 3) | apply X_regR (id := 3) | apply X_seqX (x := .seq (.region 3 _ false) _) | apply X_seqX (x := .seq (.seq (.region 3 _ false) _) _) | apply X_regRS (id := 6) | apply X_regR (id := 6) | apply X_seqX (x := .seq (.region 6 _ false) _) | apply X_seqX (x := .seq (.seq (.region 6 _ false) _) _) | apply X_regRS (id := 10) | apply X_regR (id := 10) | apply X_seqX (x := .seq (.region 10 _ false) _) | apply X_seqX (x := .seq (.seq (.region 10 _ false) _) _) | apply X_regRS (id := 11) | apply X_regR (id := 11) | apply X_seqX (x := .seq (.region 11 _ false) _) | apply X_seqX (x := .seq (.seq (.region 11 _ false) _) _) | apply X_regRS (id := 12) | apply X_regR (id := 12) | apply X_seqX (x := .seq (.region 12 _ false) _) | apply X_seqX (x := .seq (.seq (.region 12 _ false) _) _) | apply X_regRS (id := 13) | apply X_regR (id := 13) | apply X_seqX (x := .seq (.region 13 _ false) _) | apply X_seqX (x := .seq (.seq (.region 13 _ false) _) _) | apply X_regRS (id := 14) | apply X_regR (id := 14) | apply X_seqX (x := .seq (.region 14 _ false) _) | apply X_seqX (x := .seq (.seq (.region 14 _ false) _) _) | apply X_regRS (id := 15) | apply X_regR (id := 15) | apply X_seqX (x := .seq (.region 15 _ false) _) | apply X_seqX (x := .seq (.seq (.region 15 _ false) _) _)) | (with_reducible apply X_drawC (id := 16) 49; (next => (kernel_rfl)); (next => (kernel_rfl))) | refine X_of _ ?_ | with_reducible (first | exact ⟨_, rfl⟩ | refine And.intro ?_ ?_ | intro _)) <;> try simp -implicitDefEqProofs (maxSteps := 1000000) (disch := first | exact dz2 | fail) only [vcR, vcT, Int.reduceBEq, Int.reduceBNe, Int.reduceEq, Int.reduceNe, Ab.part, Nat.reduceAdd, Nat.reduceMul, Nat.reduceLeDiff, Nat.reduceEqDiff, Nat.reduceBEq, Nat.reduceBNe, reduceCtorEq, ↓reduceIte, implies_true, forall_const, Int.reduceNeg, Int.reduceToNat, Int.reduceLT, Int.reduceLE, Int.reduceAdd, Int.reduceSub, Int.reduceMul, Int.reducePow, Nat.reducePow, true_or, Option.isNone_some, Option.isNone_none, vcXGb, Tryd.f5, List.toList_toArray, arr4_zero, nat4_set1, nat4_setL, nat4_set0]))
  refine yF_small (h0 := 3) hsm rfl (fun _ h => h) rfl ?_
  intro n0 A H1 hn1 hn5 hLi hd hA hN0
  obtain ⟨N, hN⟩ : ∃ N, A.length = N := ⟨_, rfl⟩
  rw [hN] at hN0
  have hk0 : ∀ {B : Heap}, (A ++ B)[0]? = some ⟨24, nat4 a⟩ := by obtain ⟨X, rfl⟩ := hA; intro B; rfl
  have hk1 : ∀ {B : Heap}, (A ++ B)[1]? = some ⟨24, nat4 b⟩ := by obtain ⟨X, rfl⟩ := hA; intro B; rfl
  have hk2 : ∀ {B : Heap}, (A ++ B)[2]? = some ⟨24, nat4 n⟩ := by obtain ⟨X, rfl⟩ := hA; intro B; rfl
  have q0 : ∀ {B : Heap}, (A ++ B)[N]? = B[0]? := fun {B} => end0 hN
  have qs : ∀ {B : Heap} {t : Nat} {cs cs' : List SV}, putH (A ++ ⟨t, cs⟩ :: B) N cs' = A ++ ⟨t, cs'⟩ :: B := fun {B t cs cs'} => end_put hN
  clear hA
  try simp -implicitDefEqProofs (maxSteps := 1000000) (disch := first | exact dz2 | fail) only [vcR, vcT, Int.reduceBEq, Int.reduceBNe, Int.reduceEq, Int.reduceNe, Ab.part, Nat.reduceAdd, Nat.reduceMul, Nat.reduceLeDiff, Nat.reduceEqDiff, Nat.reduceBEq, Nat.reduceBNe, reduceCtorEq, ↓reduceIte, implies_true, forall_const, Int.reduceNeg, Int.reduceToNat, Int.reduceLT, Int.reduceLE, Int.reduceAdd, Int.reduceSub, Int.reduceMul, Int.reducePow, Nat.reducePow, true_or, Option.isNone_some, Option.isNone_none, vcXGb, Tryd.f5, List.toList_toArray, hN,q0,qs,hk0,hk1,hk2]
  (repeat' ((first | with_reducible (first | apply XQ_cons | apply XQ_consG | apply XQ_nil | apply XR_cons | apply XR_consG | apply XR_nil | apply cF_pure2 (by assumption) | apply cV_pure2 (by assumption) | apply cF_ev2 (by assumption) | apply cV_ev2 (by assumption) | apply cF_pure2 (rmpow_c _ _ _ bd2 bd2 bd2) | apply cV_pure2 (rmpow_c _ _ _ bd2 bd2 bd2)) | ((with_reducible apply cF_new2 (by assumption)); (first | rintro _ _ ⟨rfl, rfl⟩ | rintro _ _ ⟨_, _, rfl, rfl⟩)) | with_reducible (first | apply X_regRS (id := 2) | apply X_regR (id := 2) | apply X_seqX (x := .seq (.region 2 _ false) _) | apply X_seqX (x := .seq (.seq (.region 2 _ false) _) _) | apply X_regRS (id := 3) | apply X_regR (id := 3) | apply X_seqX (x := .seq (.region 3 _ false) _) | apply X_seqX (x := .seq (.seq (.region 3 _ false) _) _) | apply X_regRS (id := 6) | apply X_regR (id := 6) | apply X_seqX (x := .seq (.region 6 _ false) _) | apply X_seqX (x := .seq (.seq (.region 6 _ false) _) _) | apply X_regRS (id := 10) | apply X_regR (id := 10) | apply X_seqX (x := .seq (.region 10 _ false) _) | apply X_seqX (x := .seq (.seq (.region 10 _ false) _) _) | apply X_regRS (id := 11) | apply X_regR (id := 11) | apply X_seqX (x := .seq (.region 11 _ false) _) | apply X_seqX (x := .seq (.seq (.region 11 _ false) _) _) | apply X_regRS (id := 12) | apply X_regR (id := 12) | apply X_seqX (x := .seq (.region 12 _ false) _) | apply X_seqX (x := .seq (.seq (.region 12 _ false) _) _) | apply X_regRS (id := 13) | apply X_regR (id := 13) | apply X_seqX (x := .seq (.region 13 _ false) _) | apply X_seqX (x := .seq (.seq (.region 13 _ false) _) _) | apply X_regRS (id := 14) | apply X_regR (id := 14) | apply X_seqX (x := .seq (.region 14 _ false) _) | apply X_seqX (x := .seq (.seq (.region 14 _ false) _) _) | apply X_regRS (id := 15) | apply X_regR (id := 15) | apply X_seqX (x := .seq (.region 15 _ false) _) | apply X_seqX (x := .seq (.seq (.region 15 _ false) _) _)) | (with_reducible apply X_drawC (id := 16) 49; (next => (kernel_rfl)); (next => (kernel_rfl))) | refine X_of _ ?_ | with_reducible (first | exact ⟨_, rfl⟩ | refine And.intro ?_ ?_ | intro _)) <;> try simp -implicitDefEqProofs (maxSteps := 1000000) (disch := first | exact dz2 | fail) only [vcR, vcT, Int.reduceBEq, Int.reduceBNe, Int.reduceEq, Int.reduceNe, Ab.part, Nat.reduceAdd, Nat.reduceMul, Nat.reduceLeDiff, Nat.reduceEqDiff, Nat.reduceBEq, Nat.reduceBNe, reduceCtorEq, ↓reduceIte, implies_true, forall_const, Int.reduceNeg, Int.reduceToNat, Int.reduceLT, Int.reduceLE, Int.reduceAdd, Int.reduceSub, Int.reduceMul, Int.reducePow, Nat.reducePow, true_or, Option.isNone_some, Option.isNone_none, vcXGb, Tryd.f5, List.toList_toArray, arr4_zero, nat4_set1, nat4_setL, nat4_set0, hN,q0,qs,hk0,hk1,hk2]))
  refine yF_new hLi hn5 hd hN hok.gr hgv rfl (fun _ h => h) ?_
  intro bx bq
  (try (first | with_reducible refine X_regRS ?_ | with_reducible refine X_regR ?_ | (with_reducible refine X_seqX ?_; with_reducible refine X_blockX ?_; with_reducible refine X_regR ?_))); (repeat ((first | with_reducible refine XR_make ?_ | with_reducible refine XR_append ?_ | with_reducible refine XR_cons ?_ | with_reducible refine XR_consG ?_ | with_reducible refine XR_nil ?_); try simp -implicitDefEqProofs (maxSteps := 1000000) (disch := first | exact dz2 | fail) only [vcR, vcT, Int.reduceBEq, Int.reduceBNe, Int.reduceEq, Int.reduceNe, Ab.part, Nat.reduceAdd, Nat.reduceMul, Nat.reduceLeDiff, Nat.reduceEqDiff, Nat.reduceBEq, Nat.reduceBNe, reduceCtorEq, ↓reduceIte, implies_true, forall_const, Int.reduceNeg, Int.reduceToNat, Int.reduceLT, Int.reduceLE, Int.reduceAdd, Int.reduceSub, Int.reduceMul, Int.reducePow, Nat.reducePow, true_or, Option.isNone_some, Option.isNone_none, vcXGb, Tryd.f5, List.toList_toArray, hN,q0,qs,hk0,hk1,hk2]))
  refine X_grp (N + 1) (N + 2) (N + 3) [0, 1, 2, N] ((endk hN (k := 1)).trans rfl) ((endk hN (k := 2)).trans rfl) ((endk hN (k := 3)).trans rfl) hok.gr.1 hok.gr.2.1 (by decide) (by simp; try omega) (by simp; try omega) (fun i hi => by rw [end_len hN]; simp at hi ⊢; omega) (by simp only [pickH_cons, pickH_nil, consH_some, List.getElem?_cons_zero, hN, q0, qs, hk0, hk1, hk2]; simp) fun β1 w1 hR1 hG hK => ?_
  have hz0 : ¬ N = 0 := by omega
  have hy0 : ¬ 0 = N := by omega
  have hz1 : ¬ N = 1 := by omega
  have hy1 : ¬ 1 = N := by omega
  have hz2 : ¬ N = 2 := by omega
  have hy2 : ¬ 2 = N := by omega
  have hM1 : ¬ N + 1 = 1 := by omega
  have hM2 : ¬ N + 1 = 2 := by omega
  have hy3 : ¬ 3 = N := by omega
  have hMN : ¬ N + 1 = N := by omega
  have hO := gv_one hpre.2.2 hR1 (L := [0, 1, 2, N]) (fun i hi => by rw [end_len hN]; simp at hi ⊢; omega)
  have hNx := hK _ (natsAt_stays _ x p l) hpre.1
  have hNy := hK _ (natsAt_stays _ y q e) hpre.2.1
  clear hR1 hK hLi hd hgv hpre
  simp -implicitDefEqProofs (maxSteps := 1000000) (disch := first | exact dz2 | fail) only [vcR, vcT, Int.reduceBEq, Int.reduceBNe, Int.reduceEq, Int.reduceNe, Ab.part, Nat.reduceAdd, Nat.reduceMul, Nat.reduceLeDiff, Nat.reduceEqDiff, Nat.reduceBEq, Nat.reduceBNe, reduceCtorEq, ↓reduceIte, implies_true, forall_const, Int.reduceNeg, Int.reduceToNat, Int.reduceLT, Int.reduceLE, Int.reduceAdd, Int.reduceSub, Int.reduceMul, Int.reducePow, Nat.reducePow, true_or, Option.isNone_some, Option.isNone_none, vcXGb, Tryd.f5, List.toList_toArray, hN,q0,qs,hk0,hk1,hk2,hz0,hy0,hz1,hy1,hz2,hy2,hM1,hM2,hy3,hMN]
  obtain ⟨k, hk⟩ : ∃ k, β1 (N + 1) = k := ⟨_, rfl⟩
  obtain ⟨kx, hkx⟩ : ∃ k, β1 (N + 2) = k := ⟨_, rfl⟩
  obtain ⟨kq, hkq⟩ : ∃ k, β1 (N + 3) = k := ⟨_, rfl⟩
  rw [hk, hkx, hkq] at hG
  have hOP := hok.gr.1
  have hOQ := hok.gr.2.1
  have hP2 := hOP.lt
  have hQ2 := hOQ.lt
  have hP1 : 1 < P := hOP.gt
  have hQ0 : 0 < Q := hOQ.pos
  have hg1 : 4 ^ Q % P = 1 := hok.gr.2.2.2.2.2.2
  clear hN0 hn1 hn5 hsm haw hN q0 qs hk0 hz0 hy0 hk1 hz1 hy1 hk2 hz2 hy2 hM1 hM2 hy3 hMN
  try simp -implicitDefEqProofs (maxSteps := 1000000) (disch := first | exact dz2 | fail) only [vcR, vcT, Int.reduceBEq, Int.reduceBNe, Int.reduceEq, Int.reduceNe, Ab.part, Nat.reduceAdd, Nat.reduceMul, Nat.reduceLeDiff, Nat.reduceEqDiff, Nat.reduceBEq, Nat.reduceBNe, reduceCtorEq, ↓reduceIte, implies_true, forall_const, Int.reduceNeg, Int.reduceToNat, Int.reduceLT, Int.reduceLE, Int.reduceAdd, Int.reduceSub, Int.reduceMul, Int.reducePow, Nat.reducePow, true_or, Option.isNone_some, Option.isNone_none, vcXGb, Tryd.f5, List.toList_toArray, hk,hkx,hkq]
  clear hkx hkq
  have hab : ∀ i, two a b i < 2 ^ 256 := fun i => by unfold two; split <;> assumption
  have h11 : ∀ i, two 1 1 i < 2 ^ 256 := fun i => by unfold two; split <;> decide
  by_cases h6 : 6 < p
  · have h6' : (6 : Int) < (p : Int) := by omega
    clear hl he hab h11 hok hg1
    (repeat' ((first | with_reducible (first | apply XQ_cons | apply XQ_consG | apply XQ_nil | apply XR_cons | apply XR_consG | apply XR_nil | apply cF_pure2 (by assumption) | apply cV_pure2 (by assumption) | apply cF_ev2 (by assumption) | apply cV_ev2 (by assumption) | apply cF_pure2 (rmpow_c _ _ _ bd2 bd2 bd2) | apply cV_pure2 (rmpow_c _ _ _ bd2 bd2 bd2)) | ((with_reducible apply cF_new2 (by assumption)); (first | rintro _ _ ⟨rfl, rfl⟩ | rintro _ _ ⟨_, _, rfl, rfl⟩)) | with_reducible (first | apply X_regRS (id := 2) | apply X_regR (id := 2) | apply X_seqX (x := .seq (.region 2 _ false) _) | apply X_seqX (x := .seq (.seq (.region 2 _ false) _) _) | apply X_regRS (id := 3) | apply X_regR (id := 3) | apply X_seqX (x := .seq (.region 3 _ false) _) | apply X_seqX (x := .seq (.seq (.region 3 _ false) _) _) | apply X_regRS (id := 6) | apply X_regR (id := 6) | apply X_seqX (x := .seq (.region 6 _ false) _) | apply X_seqX (x := .seq (.seq (.region 6 _ false) _) _) | apply X_regRS (id := 10) | apply X_regR (id := 10) | apply X_seqX (x := .seq (.region 10 _ false) _) | apply X_seqX (x := .seq (.seq (.region 10 _ false) _) _) | apply X_regRS (id := 11) | apply X_regR (id := 11) | apply X_seqX (x := .seq (.region 11 _ false) _) | apply X_seqX (x := .seq (.seq (.region 11 _ false) _) _) | apply X_regRS (id := 12) | apply X_regR (id := 12) | apply X_seqX (x := .seq (.region 12 _ false) _) | apply X_seqX (x := .seq (.seq (.region 12 _ false) _) _) | apply X_regRS (id := 13) | apply X_regR (id := 13) | apply X_seqX (x := .seq (.region 13 _ false) _) | apply X_seqX (x := .seq (.seq (.region 13 _ false) _) _) | apply X_regRS (id := 14) | apply X_regR (id := 14) | apply X_seqX (x := .seq (.region 14 _ false) _) | apply X_seqX (x := .seq (.seq (.region 14 _ false) _) _) | apply X_regRS (id := 15) | apply X_regR (id := 15) | apply X_seqX (x := .seq (.region 15 _ false) _) | apply X_seqX (x := .seq (.seq (.region 15 _ false) _) _)) | (with_reducible apply X_drawC (id := 16) 49; (next => (kernel_rfl)); (next => (kernel_rfl))) | refine X_of _ ?_ | with_reducible (first | exact ⟨_, rfl⟩ | refine And.intro ?_ ?_ | intro _)) <;> try simp -implicitDefEqProofs (maxSteps := 1000000) (disch := first | exact dz2 | fail) only [vcR, vcT, Int.reduceBEq, Int.reduceBNe, Int.reduceEq, Int.reduceNe, Ab.part, Nat.reduceAdd, Nat.reduceMul, Nat.reduceLeDiff, Nat.reduceEqDiff, Nat.reduceBEq, Nat.reduceBNe, reduceCtorEq, ↓reduceIte, implies_true, forall_const, Int.reduceNeg, Int.reduceToNat, Int.reduceLT, Int.reduceLE, Int.reduceAdd, Int.reduceSub, Int.reduceMul, Int.reducePow, Nat.reducePow, true_or, Option.isNone_some, Option.isNone_none, vcXGb, Tryd.f5, List.toList_toArray, arr4_zero, nat4_set1, nat4_setL, nat4_set0, hk,h6']))
  · have h6' : ¬ (6 : Int) < (p : Int) := by omega
    by_cases h7 : 6 < q
    · have h7' : (6 : Int) < (q : Int) := by omega
      clear hl he hab h11 hok hg1
      (repeat' ((first | with_reducible (first | apply XQ_cons | apply XQ_consG | apply XQ_nil | apply XR_cons | apply XR_consG | apply XR_nil | apply cF_pure2 (by assumption) | apply cV_pure2 (by assumption) | apply cF_ev2 (by assumption) | apply cV_ev2 (by assumption) | apply cF_pure2 (rmpow_c _ _ _ bd2 bd2 bd2) | apply cV_pure2 (rmpow_c _ _ _ bd2 bd2 bd2)) | ((with_reducible apply cF_new2 (by assumption)); (first | rintro _ _ ⟨rfl, rfl⟩ | rintro _ _ ⟨_, _, rfl, rfl⟩)) | with_reducible (first | apply X_regRS (id := 2) | apply X_regR (id := 2) | apply X_seqX (x := .seq (.region 2 _ false) _) | apply X_seqX (x := .seq (.seq (.region 2 _ false) _) _) | apply X_regRS (id := 3) | apply X_regR (id := 3) | apply X_seqX (x := .seq (.region 3 _ false) _) | apply X_seqX (x := .seq (.seq (.region 3 _ false) _) _) | apply X_regRS (id := 6) | apply X_regR (id := 6) | apply X_seqX (x := .seq (.region 6 _ false) _) | apply X_seqX (x := .seq (.seq (.region 6 _ false) _) _) | apply X_regRS (id := 10) | apply X_regR (id := 10) | apply X_seqX (x := .seq (.region 10 _ false) _) | apply X_seqX (x := .seq (.seq (.region 10 _ false) _) _) | apply X_regRS (id := 11) | apply X_regR (id := 11) | apply X_seqX (x := .seq (.region 11 _ false) _) | apply X_seqX (x := .seq (.seq (.region 11 _ false) _) _) | apply X_regRS (id := 12) | apply X_regR (id := 12) | apply X_seqX (x := .seq (.region 12 _ false) _) | apply X_seqX (x := .seq (.seq (.region 12 _ false) _) _) | apply X_regRS (id := 13) | apply X_regR (id := 13) | apply X_seqX (x := .seq (.region 13 _ false) _) | apply X_seqX (x := .seq (.seq (.region 13 _ false) _) _) | apply X_regRS (id := 14) | apply X_regR (id := 14) | apply X_seqX (x := .seq (.region 14 _ false) _) | apply X_seqX (x := .seq (.seq (.region 14 _ false) _) _) | apply X_regRS (id := 15) | apply X_regR (id := 15) | apply X_seqX (x := .seq (.region 15 _ false) _) | apply X_seqX (x := .seq (.seq (.region 15 _ false) _) _)) | (with_reducible apply X_drawC (id := 16) 49; (next => (kernel_rfl)); (next => (kernel_rfl))) | refine X_of _ ?_ | with_reducible (first | exact ⟨_, rfl⟩ | refine And.intro ?_ ?_ | intro _)) <;> try simp -implicitDefEqProofs (maxSteps := 1000000) (disch := first | exact dz2 | fail) only [vcR, vcT, Int.reduceBEq, Int.reduceBNe, Int.reduceEq, Int.reduceNe, Ab.part, Nat.reduceAdd, Nat.reduceMul, Nat.reduceLeDiff, Nat.reduceEqDiff, Nat.reduceBEq, Nat.reduceBNe, reduceCtorEq, ↓reduceIte, implies_true, forall_const, Int.reduceNeg, Int.reduceToNat, Int.reduceLT, Int.reduceLE, Int.reduceAdd, Int.reduceSub, Int.reduceMul, Int.reducePow, Nat.reducePow, true_or, Option.isNone_some, Option.isNone_none, vcXGb, Tryd.f5, List.toList_toArray, arr4_zero, nat4_set1, nat4_setL, nat4_set0, hk,h6',h7']))
    · have h7' : ¬ (6 : Int) < (q : Int) := by omega
      have e1 := gMember_e k kx kq P Q 4 a hP2 hQ2 ha
      have e2 := gBase_e k kx kq P Q 4 n (by decide) hn
      have e3 := gExp_e k kx kq P Q 4 a n hP2 hQ2 ha hn
      have e4 := gTimes_e k kx kq P Q 4 a b hP2 hQ2 ha hb
      have e5 := gMulti_e x y p q c d l e k kx kq P Q 4 hP2 hQ2 hl he hp hq
      have e6 := rgMember_c P Q 4 a hOP hQ2 ha
      have e7 := rmpow_c P 4 n hOP (by decide) hn
      have e8 := rgMulti_e x y p q c d l e P Q 4 hOP hQ2 hl he hp hq
      have e9 := fun x y => rgMulti_e x y 1 1 1 1 (fun _ => a) (fun _ => n) P Q 4 hOP hQ2 (fun _ => ha) (fun _ => hn) (by decide) (by decide)
      have e10 := fun x y => rgMulti_e x y 2 2 2 2 (two a b) (two 1 1) P Q 4 hOP hQ2 hab h11 (by decide) (by decide)
      have r1 : 4 ^ n % P < 2 ^ 256 := hOP.mod_lt
      have r2 := muV_lt hOP Q 1 1 (fun _ => a) (fun _ => n)
      have r3 := muV_lt hOP Q 2 2 (two a b) (two 1 1)
      have r4 := muV_lt hOP Q p q l e
      obtain ⟨m, hm⟩ : ∃ m, memB P Q a = m := ⟨_, rfl⟩
      obtain ⟨u, hu⟩ : ∃ u, 4 ^ n % P = u := ⟨_, rfl⟩
      obtain ⟨v1, hv1⟩ : ∃ v, muV P Q 1 1 (fun _ => a) (fun _ => n) = v := ⟨_, rfl⟩
      obtain ⟨v2, hv2⟩ : ∃ v, muV P Q 2 2 (two a b) (two 1 1) = v := ⟨_, rfl⟩
      obtain ⟨v3, hv3⟩ : ∃ v, muV P Q p q l e = v := ⟨_, rfl⟩
      obtain ⟨w1', hw1⟩ : ∃ v, muE P Q 1 1 (fun _ => a) = v := ⟨_, rfl⟩
      obtain ⟨w2', hw2⟩ : ∃ v, muE P Q 2 2 (two a b) = v := ⟨_, rfl⟩
      obtain ⟨w3', hw3⟩ : ∃ v, muE P Q p q l = v := ⟨_, rfl⟩
      rw [hm] at e1 e6
      rw [hu] at e2 e7 r1
      rw [hv1] at e3 e9 r2
      rw [hw1] at e3 e9
      rw [hv2] at e4 e10 r3
      rw [hw2] at e4 e10
      rw [hv3] at e5 e8 r4
      rw [hw3] at e5 e8
      have hz1 : slice0 Tryd.prog 24 1 = some (arr 4 fun _ => 0) := by kernel_rfl
      have hz2 : slice0 Tryd.prog 24 2 = some (arr 8 fun _ => 0) := by kernel_rfl
      clear hl he hab h11 hok hg1 hm hu hv1 hv2 hv3 hw1 hw2 hw3 h6 h7
      (repeat' ((first | with_reducible (first | apply XQ_cons | apply XQ_consG | apply XQ_nil | apply XR_cons | apply XR_consG | apply XR_nil | apply cF_pure2 (by assumption) | apply cV_pure2 (by assumption) | apply cF_ev2 (by assumption) | apply cV_ev2 (by assumption)) | ((with_reducible apply cF_new2 (by assumption)); (first | rintro _ _ ⟨rfl, rfl⟩ | rintro _ _ ⟨_, _, rfl, rfl⟩)) | with_reducible (first | apply X_regRS (id := 2) | apply X_regR (id := 2) | apply X_seqX (x := .seq (.region 2 _ false) _) | apply X_seqX (x := .seq (.seq (.region 2 _ false) _) _) | apply X_regRS (id := 3) | apply X_regR (id := 3) | apply X_seqX (x := .seq (.region 3 _ false) _) | apply X_seqX (x := .seq (.seq (.region 3 _ false) _) _) | apply X_regRS (id := 6) | apply X_regR (id := 6) | apply X_seqX (x := .seq (.region 6 _ false) _) | apply X_seqX (x := .seq (.seq (.region 6 _ false) _) _) | apply X_regRS (id := 10) | apply X_regR (id := 10) | apply X_seqX (x := .seq (.region 10 _ false) _) | apply X_seqX (x := .seq (.seq (.region 10 _ false) _) _) | apply X_regRS (id := 11) | apply X_regR (id := 11) | apply X_seqX (x := .seq (.region 11 _ false) _) | apply X_seqX (x := .seq (.seq (.region 11 _ false) _) _) | apply X_regRS (id := 12) | apply X_regR (id := 12) | apply X_seqX (x := .seq (.region 12 _ false) _) | apply X_seqX (x := .seq (.seq (.region 12 _ false) _) _) | apply X_regRS (id := 13) | apply X_regR (id := 13) | apply X_seqX (x := .seq (.region 13 _ false) _) | apply X_seqX (x := .seq (.seq (.region 13 _ false) _) _) | apply X_regRS (id := 14) | apply X_regR (id := 14) | apply X_seqX (x := .seq (.region 14 _ false) _) | apply X_seqX (x := .seq (.seq (.region 14 _ false) _) _) | apply X_regRS (id := 15) | apply X_regR (id := 15) | apply X_seqX (x := .seq (.region 15 _ false) _) | apply X_seqX (x := .seq (.seq (.region 15 _ false) _) _)) | (with_reducible apply X_drawC (id := 16) 49; (next => (kernel_rfl)); (next => (kernel_rfl))) | refine X_of _ ?_ | with_reducible (first | exact ⟨_, rfl⟩ | refine And.intro ?_ ?_ | intro _)) <;> try simp -implicitDefEqProofs (maxSteps := 1000000) (disch := first | exact dz2 | fail) only [vcR, vcT, Int.reduceBEq, Int.reduceBNe, Int.reduceEq, Int.reduceNe, Ab.part, Nat.reduceAdd, Nat.reduceMul, Nat.reduceLeDiff, Nat.reduceEqDiff, Nat.reduceBEq, Nat.reduceBNe, reduceCtorEq, ↓reduceIte, implies_true, forall_const, Int.reduceNeg, Int.reduceToNat, Int.reduceLT, Int.reduceLE, Int.reduceAdd, Int.reduceSub, Int.reduceMul, Int.reducePow, Nat.reducePow, true_or, Option.isNone_some, Option.isNone_none, vcXGb, Tryd.f5, List.toList_toArray, arr4_zero, nat4_set1, nat4_setL, nat4_set0, hk,h6',h7',st_bs,xbs_some,hz1,hz2,one_setN,two_len,two_set]))
      refine yF_evz (fun β w' hR => ⟨_, e9 (some ⟨β 6, 0, none⟩) (some ⟨β 7, 0, none⟩), natsAt_own0 hR rfl (by decide), natsAt_own0 hR rfl (by decide)⟩) rfl rfl (by kernel_rfl) ?_
      (repeat' ((first | with_reducible (first | apply XQ_cons | apply XQ_consG | apply XQ_nil | apply XR_cons | apply XR_consG | apply XR_nil | apply cF_pure2 (by assumption) | apply cV_pure2 (by assumption) | apply cF_ev2 (by assumption) | apply cV_ev2 (by assumption)) | ((with_reducible apply cF_new2 (by assumption)); (first | rintro _ _ ⟨rfl, rfl⟩ | rintro _ _ ⟨_, _, rfl, rfl⟩)) | with_reducible (first | apply X_regRS (id := 2) | apply X_regR (id := 2) | apply X_seqX (x := .seq (.region 2 _ false) _) | apply X_seqX (x := .seq (.seq (.region 2 _ false) _) _) | apply X_regRS (id := 3) | apply X_regR (id := 3) | apply X_seqX (x := .seq (.region 3 _ false) _) | apply X_seqX (x := .seq (.seq (.region 3 _ false) _) _) | apply X_regRS (id := 6) | apply X_regR (id := 6) | apply X_seqX (x := .seq (.region 6 _ false) _) | apply X_seqX (x := .seq (.seq (.region 6 _ false) _) _) | apply X_regRS (id := 10) | apply X_regR (id := 10) | apply X_seqX (x := .seq (.region 10 _ false) _) | apply X_seqX (x := .seq (.seq (.region 10 _ false) _) _) | apply X_regRS (id := 11) | apply X_regR (id := 11) | apply X_seqX (x := .seq (.region 11 _ false) _) | apply X_seqX (x := .seq (.seq (.region 11 _ false) _) _) | apply X_regRS (id := 12) | apply X_regR (id := 12) | apply X_seqX (x := .seq (.region 12 _ false) _) | apply X_seqX (x := .seq (.seq (.region 12 _ false) _) _) | apply X_regRS (id := 13) | apply X_regR (id := 13) | apply X_seqX (x := .seq (.region 13 _ false) _) | apply X_seqX (x := .seq (.seq (.region 13 _ false) _) _) | apply X_regRS (id := 14) | apply X_regR (id := 14) | apply X_seqX (x := .seq (.region 14 _ false) _) | apply X_seqX (x := .seq (.seq (.region 14 _ false) _) _) | apply X_regRS (id := 15) | apply X_regR (id := 15) | apply X_seqX (x := .seq (.region 15 _ false) _) | apply X_seqX (x := .seq (.seq (.region 15 _ false) _) _)) | (with_reducible apply X_drawC (id := 16) 49; (next => (kernel_rfl)); (next => (kernel_rfl))) | refine X_of _ ?_ | with_reducible (first | exact ⟨_, rfl⟩ | refine And.intro ?_ ?_ | intro _)) <;> try simp -implicitDefEqProofs (maxSteps := 1000000) (disch := first | exact dz2 | fail) only [vcR, vcT, Int.reduceBEq, Int.reduceBNe, Int.reduceEq, Int.reduceNe, Ab.part, Nat.reduceAdd, Nat.reduceMul, Nat.reduceLeDiff, Nat.reduceEqDiff, Nat.reduceBEq, Nat.reduceBNe, reduceCtorEq, ↓reduceIte, implies_true, forall_const, Int.reduceNeg, Int.reduceToNat, Int.reduceLT, Int.reduceLE, Int.reduceAdd, Int.reduceSub, Int.reduceMul, Int.reducePow, Nat.reducePow, true_or, Option.isNone_some, Option.isNone_none, vcXGb, Tryd.f5, List.toList_toArray, arr4_zero, nat4_set1, nat4_setL, nat4_set0, hk,h6',h7',st_bs,xbs_some,hz1,hz2,one_setN,two_len,two_set]))
      refine yF_evz (fun β w' hR => ⟨_, e10 (some ⟨β 10, 0, none⟩) (some ⟨β 11, 0, none⟩), natsAt_own0 hR rfl (by decide), natsAt_own0 hR rfl (by decide)⟩) rfl rfl (by kernel_rfl) ?_
      (repeat' ((first | with_reducible (first | apply XQ_cons | apply XQ_consG | apply XQ_nil | apply XR_cons | apply XR_consG | apply XR_nil | apply cF_pure2 (by assumption) | apply cV_pure2 (by assumption) | apply cF_ev2 (by assumption) | apply cV_ev2 (by assumption)) | ((with_reducible apply cF_new2 (by assumption)); (first | rintro _ _ ⟨rfl, rfl⟩ | rintro _ _ ⟨_, _, rfl, rfl⟩)) | with_reducible (first | apply X_regRS (id := 2) | apply X_regR (id := 2) | apply X_seqX (x := .seq (.region 2 _ false) _) | apply X_seqX (x := .seq (.seq (.region 2 _ false) _) _) | apply X_regRS (id := 3) | apply X_regR (id := 3) | apply X_seqX (x := .seq (.region 3 _ false) _) | apply X_seqX (x := .seq (.seq (.region 3 _ false) _) _) | apply X_regRS (id := 6) | apply X_regR (id := 6) | apply X_seqX (x := .seq (.region 6 _ false) _) | apply X_seqX (x := .seq (.seq (.region 6 _ false) _) _) | apply X_regRS (id := 10) | apply X_regR (id := 10) | apply X_seqX (x := .seq (.region 10 _ false) _) | apply X_seqX (x := .seq (.seq (.region 10 _ false) _) _) | apply X_regRS (id := 11) | apply X_regR (id := 11) | apply X_seqX (x := .seq (.region 11 _ false) _) | apply X_seqX (x := .seq (.seq (.region 11 _ false) _) _) | apply X_regRS (id := 12) | apply X_regR (id := 12) | apply X_seqX (x := .seq (.region 12 _ false) _) | apply X_seqX (x := .seq (.seq (.region 12 _ false) _) _) | apply X_regRS (id := 13) | apply X_regR (id := 13) | apply X_seqX (x := .seq (.region 13 _ false) _) | apply X_seqX (x := .seq (.seq (.region 13 _ false) _) _) | apply X_regRS (id := 14) | apply X_regR (id := 14) | apply X_seqX (x := .seq (.region 14 _ false) _) | apply X_seqX (x := .seq (.seq (.region 14 _ false) _) _) | apply X_regRS (id := 15) | apply X_regR (id := 15) | apply X_seqX (x := .seq (.region 15 _ false) _) | apply X_seqX (x := .seq (.seq (.region 15 _ false) _) _)) | (with_reducible apply X_drawC (id := 16) 49; (next => (kernel_rfl)); (next => (kernel_rfl))) | refine X_of _ ?_ | with_reducible (first | exact ⟨_, rfl⟩ | refine And.intro ?_ ?_ | intro _)) <;> try simp -implicitDefEqProofs (maxSteps := 1000000) (disch := first | exact dz2 | fail) only [vcR, vcT, Int.reduceBEq, Int.reduceBNe, Int.reduceEq, Int.reduceNe, Ab.part, Nat.reduceAdd, Nat.reduceMul, Nat.reduceLeDiff, Nat.reduceEqDiff, Nat.reduceBEq, Nat.reduceBNe, reduceCtorEq, ↓reduceIte, implies_true, forall_const, Int.reduceNeg, Int.reduceToNat, Int.reduceLT, Int.reduceLE, Int.reduceAdd, Int.reduceSub, Int.reduceMul, Int.reducePow, Nat.reducePow, true_or, Option.isNone_some, Option.isNone_none, vcXGb, Tryd.f5, List.toList_toArray, arr4_zero, nat4_set1, nat4_setL, nat4_set0, hk,h6',h7',st_bs,xbs_some,hz1,hz2,one_setN,two_len,two_set]))
end Go.Proofs.YtdmcknmjdlghgaaDoor
