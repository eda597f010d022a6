/-
  Package mont's statements: their code.
  GroupFew: members are just the powers of the maker.
-/
import Derived.WalkKit
import Derived.StillTail
import Derived.Deep.MidRow
import Derived.DeepKeys
import Derived.Deep.LoopGhost
import Derived.Deep.Quiet
import Derived.Laws.AppendOwn
import Derived.Laws.MakeOwn
import Derived.Laws.Cover3
import Derived.Laws.IdiomCopy
import Derived.Laws.CopyRow
import Derived.Laws.BitsAllLaws
import Derived.Laws.Bits128
import Derived.Lib.BitFns
import Derived.Test.YtdmcknmjdlghgaaDoorProg
import Derived.Shelf.Bits.Mul64
import Derived.Shelf.Strconv.Itoa0
import Derived.Shelf.Spec.BitsCarry
import Derived.Tactics
import Derived.Tactics2
import Derived.Defers
import Derived.Laws.Pointers
import Derived.Laws.LoneSync
import Derived.RegionTactic
import Derived.RegionCalls
import Derived.ChangeAlike
import Derived.KernelRfl
import Derived.Laws.NewBlocks
import Derived.DeepKeys3
import Derived.MapKept
import Derived.Test.YtdmcknmjdlghgaaDoorZ01
import Derived.Test.YtdmcknmjdlghgaaDoorZ02
import Derived.Test.YtdmcknmjdlghgaaDoorZ03
import Derived.Test.YtdmcknmjdlghgaaDoorZ04
import Derived.Test.YtdmcknmjdlghgaaDoorZ07
import Derived.Test.YtdmcknmjdlghgaaDoorZ09
import Derived.Test.YtdmcknmjdlghgaaDoorZ11
import Derived.Test.YtdmcknmjdlghgaaDoorZ13
namespace Go.Proofs.YtdmcknmjdlghgaaDoor
open Go Go.Ab
set_option linter.unusedSimpArgs false
set_option linter.unusedVariables false
set_option linter.defProp false
set_option maxHeartbeats 20000000
set_option maxRecDepth 100000

theorem OddM.msub_lt {m x y : Nat} (h : OddM m) : msub m x y < 2 ^ 256 := h.mod_lt
end Go.Proofs.YtdmcknmjdlghgaaDoor
namespace Go.Proofs.YtdmcknmjdlghgaaDoor
open Go Go.Ab
set_option linter.unusedSimpArgs false
set_option linter.unusedVariables false
set_option linter.defProp false
set_option maxHeartbeats 20000000
set_option maxRecDepth 100000

theorem nat_word {x : Nat} (hx : x < 18446744073709551616) : arr 4 (fun j => if j = 0 then x else wd 0 j) = nat4 x := by
  refine arr_congr fun i hi => ?_
  by_cases h : i = 0
  · subst h
    rw [if_pos rfl, wd_small x hx]
  · rw [if_neg h, wd_zero, wd_big x i (Nat.lt_of_lt_of_le (show x < 2 ^ 64 from hx) (Nat.pow_le_pow_right (by decide) (by omega)))]


theorem groupFew_m (z : Int) (hz : IntKind.i64.min ≤ z ∧ z ≤ IntKind.i64.max) (a : Nat) (ha : a < 2 ^ 256) (n : Nat) (hn : n < 18446744073709551616) (c : Nat) (hc : c < 18446744073709551616) :
    PureM Tryd.prog 3 [.s (.v (.int .i64 z)), .agg (nat4 a), .s (.v (.int .u64 (n : Int))), .s (.v (.int .u64 (c : Int)))] gv (.s (.v (.bool true))) := by
  clear hz
  have hsm := small_g z
  have hok := sm_ok z
  obtain ⟨P, hP⟩ : ∃ P, smP z = P := ⟨_, rfl⟩
  obtain ⟨Q, hQ⟩ : ∃ Q, smQ z = Q := ⟨_, rfl⟩
  rw [hP, hQ] at hsm hok
  clear hP hQ
  have haw := gawake_m.ev (V := Evo.none)
  (refine pureM_of Tryd.func3 rfl (by simp only [List.length_cons, List.length_nil, List.map_cons, List.map_nil, List.nodup_cons, List.nodup_nil, List.mem_cons, Nat.reduceAdd, Nat.reduceEqDiff, or_false, not_false_eq_true, forall_eq_or_imp, forall_eq, or_self, Nat.reduceLT, Nat.reduceLeDiff, and_self, List.forall_mem_cons, List.not_mem_nil, false_implies, implies_true, and_true, true_and, vcOGb]) (by simp only [List.length_cons, List.length_nil, List.map_cons, List.map_nil, List.nodup_cons, List.nodup_nil, List.mem_cons, Nat.reduceAdd, Nat.reduceEqDiff, or_false, not_false_eq_true, forall_eq_or_imp, forall_eq, or_self, Nat.reduceLT, Nat.reduceLeDiff, and_self, List.forall_mem_cons, List.not_mem_nil, false_implies, implies_true, and_true, true_and, vcOGb]) fun w hpre => ?_; simp only [List.length_cons, List.length_nil, Tryd.ntmps3, Nat.reduceAdd, Nat.reduceSub, List.replicate_succ, List.replicate_zero, List.cons_append, List.nil_append])
  have hgv := gv_kn (P0 := Tryd.prog) hpre
  (repeat' ((first | with_reducible (first | apply XQ_cons | apply XQ_consG | apply XQ_nil | apply XR_cons | apply XR_consG | apply XR_nil | apply cF_pure2 (by assumption) | apply cV_pure2 (by assumption) | apply cF_ev2 (by assumption) | apply cV_ev2 (by assumption) | apply cF_pure2 (rdiv_c _ _ bd2 bd2 bd2) | apply cV_pure2 (rdiv_c _ _ bd2 bd2 bd2) | apply cF_pure2 (rmtimes_c _ _ _ bd2 bd2 bd2 bd2) | apply cV_pure2 (rmtimes_c _ _ _ bd2 bd2 bd2 bd2)) | ((with_reducible apply cF_new2 (by assumption)); (first | rintro _ _ ⟨rfl, rfl⟩ | rintro _ _ ⟨_, _, rfl, rfl⟩)) | with_reducible (first | apply X_regRS (id := 2) | apply X_regR (id := 2) | apply X_seqX (x := .seq (.region 2 _ false) _) | apply X_seqX (x := .seq (.seq (.region 2 _ false) _) _) | apply X_regRS (id := 3) | apply X_regR (id := 3) | apply X_seqX (x := .seq (.region 3 _ false) _) | apply X_seqX (x := .seq (.seq (.region 3 _ false) _) _) | apply X_regRS (id := 15) | apply X_regR (id := 15) | apply X_seqX (x := .seq (.region 15 _ false) _) | apply X_seqX (x := .seq (.seq (.region 15 _ false) _) _) | apply X_regRS (id := 16) | apply X_regR (id := 16) | apply X_seqX (x := .seq (.region 16 _ false) _) | apply X_seqX (x := .seq (.seq (.region 16 _ false) _) _) | apply X_regRS (id := 17) | apply X_regR (id := 17) | apply X_seqX (x := .seq (.region 17 _ false) _) | apply X_seqX (x := .seq (.seq (.region 17 _ false) _) _)) | (with_reducible apply X_drawC (id := 19) 25; (next => (kernel_rfl)); (next => (kernel_rfl))) | refine X_of _ ?_ | with_reducible (first | exact ⟨_, rfl⟩ | refine And.intro ?_ ?_ | intro _)) <;> try simp -implicitDefEqProofs (maxSteps := 1000000) (disch := first | exact dz2 | fail) only [vcR, vcT, Int.reduceBEq, Int.reduceBNe, Int.reduceEq, Int.reduceNe, Ab.part, Nat.reduceAdd, Nat.reduceMul, Nat.reduceLeDiff, Nat.reduceEqDiff, Nat.reduceBEq, Nat.reduceBNe, reduceCtorEq, ↓reduceIte, implies_true, forall_const, Int.reduceNeg, Int.reduceToNat, Int.reduceLT, Int.reduceLE, Int.reduceAdd, Int.reduceSub, Int.reduceMul, Int.reducePow, Nat.reducePow, true_or, Option.isNone_some, Option.isNone_none, vcXGb, Tryd.f3, List.toList_toArray, arr4_zero, nat4_set1, nat4_setL, nat4_set0]))
  refine yF_small (h0 := 1) hsm rfl (fun _ h => h) rfl ?_
  intro n0 A H1 hn1 hn5 hLi hd hA hN0
  obtain ⟨N, hN⟩ : ∃ N, A.length = N := ⟨_, rfl⟩
  rw [hN] at hN0
  have hk0 : ∀ {B : Heap}, (A ++ B)[0]? = some ⟨24, nat4 a⟩ := by obtain ⟨X, rfl⟩ := hA; intro B; rfl
  have q0 : ∀ {B : Heap}, (A ++ B)[N]? = B[0]? := fun {B} => end0 hN
  have qs : ∀ {B : Heap} {t : Nat} {cs cs' : List SV}, putH (A ++ ⟨t, cs⟩ :: B) N cs' = A ++ ⟨t, cs'⟩ :: B := fun {B t cs cs'} => end_put hN
  clear hA
  try simp -implicitDefEqProofs (maxSteps := 1000000) (disch := first | exact dz2 | fail) only [vcR, vcT, Int.reduceBEq, Int.reduceBNe, Int.reduceEq, Int.reduceNe, Ab.part, Nat.reduceAdd, Nat.reduceMul, Nat.reduceLeDiff, Nat.reduceEqDiff, Nat.reduceBEq, Nat.reduceBNe, reduceCtorEq, ↓reduceIte, implies_true, forall_const, Int.reduceNeg, Int.reduceToNat, Int.reduceLT, Int.reduceLE, Int.reduceAdd, Int.reduceSub, Int.reduceMul, Int.reducePow, Nat.reducePow, true_or, Option.isNone_some, Option.isNone_none, vcXGb, Tryd.f3, List.toList_toArray, hN,q0,qs,hk0]
  (repeat' ((first | with_reducible (first | apply XQ_cons | apply XQ_consG | apply XQ_nil | apply XR_cons | apply XR_consG | apply XR_nil | apply cF_pure2 (by assumption) | apply cV_pure2 (by assumption) | apply cF_ev2 (by assumption) | apply cV_ev2 (by assumption) | apply cF_pure2 (rdiv_c _ _ bd2 bd2 bd2) | apply cV_pure2 (rdiv_c _ _ bd2 bd2 bd2) | apply cF_pure2 (rmtimes_c _ _ _ bd2 bd2 bd2 bd2) | apply cV_pure2 (rmtimes_c _ _ _ bd2 bd2 bd2 bd2)) | ((with_reducible apply cF_new2 (by assumption)); (first | rintro _ _ ⟨rfl, rfl⟩ | rintro _ _ ⟨_, _, rfl, rfl⟩)) | with_reducible (first | apply X_regRS (id := 2) | apply X_regR (id := 2) | apply X_seqX (x := .seq (.region 2 _ false) _) | apply X_seqX (x := .seq (.seq (.region 2 _ false) _) _) | apply X_regRS (id := 3) | apply X_regR (id := 3) | apply X_seqX (x := .seq (.region 3 _ false) _) | apply X_seqX (x := .seq (.seq (.region 3 _ false) _) _) | apply X_regRS (id := 15) | apply X_regR (id := 15) | apply X_seqX (x := .seq (.region 15 _ false) _) | apply X_seqX (x := .seq (.seq (.region 15 _ false) _) _) | apply X_regRS (id := 16) | apply X_regR (id := 16) | apply X_seqX (x := .seq (.region 16 _ false) _) | apply X_seqX (x := .seq (.seq (.region 16 _ false) _) _) | apply X_regRS (id := 17) | apply X_regR (id := 17) | apply X_seqX (x := .seq (.region 17 _ false) _) | apply X_seqX (x := .seq (.seq (.region 17 _ false) _) _)) | (with_reducible apply X_drawC (id := 19) 25; (next => (kernel_rfl)); (next => (kernel_rfl))) | refine X_of _ ?_ | with_reducible (first | exact ⟨_, rfl⟩ | refine And.intro ?_ ?_ | intro _)) <;> try simp -implicitDefEqProofs (maxSteps := 1000000) (disch := first | exact dz2 | fail) only [vcR, vcT, Int.reduceBEq, Int.reduceBNe, Int.reduceEq, Int.reduceNe, Ab.part, Nat.reduceAdd, Nat.reduceMul, Nat.reduceLeDiff, Nat.reduceEqDiff, Nat.reduceBEq, Nat.reduceBNe, reduceCtorEq, ↓reduceIte, implies_true, forall_const, Int.reduceNeg, Int.reduceToNat, Int.reduceLT, Int.reduceLE, Int.reduceAdd, Int.reduceSub, Int.reduceMul, Int.reducePow, Nat.reducePow, true_or, Option.isNone_some, Option.isNone_none, vcXGb, Tryd.f3, List.toList_toArray, arr4_zero, nat4_set1, nat4_setL, nat4_set0, hN,q0,qs,hk0]))
  refine yF_new hLi hn5 hd hN hok.gr hgv rfl (fun _ h => h) ?_
  intro bx bq
  (try (first | with_reducible refine X_regRS ?_ | with_reducible refine X_regR ?_ | (with_reducible refine X_seqX ?_; with_reducible refine X_blockX ?_; with_reducible refine X_regR ?_))); (repeat ((first | with_reducible refine XR_make ?_ | with_reducible refine XR_append ?_ | with_reducible refine XR_cons ?_ | with_reducible refine XR_consG ?_ | with_reducible refine XR_nil ?_); try simp -implicitDefEqProofs (maxSteps := 1000000) (disch := first | exact dz2 | fail) only [vcR, vcT, Int.reduceBEq, Int.reduceBNe, Int.reduceEq, Int.reduceNe, Ab.part, Nat.reduceAdd, Nat.reduceMul, Nat.reduceLeDiff, Nat.reduceEqDiff, Nat.reduceBEq, Nat.reduceBNe, reduceCtorEq, ↓reduceIte, implies_true, forall_const, Int.reduceNeg, Int.reduceToNat, Int.reduceLT, Int.reduceLE, Int.reduceAdd, Int.reduceSub, Int.reduceMul, Int.reducePow, Nat.reducePow, true_or, Option.isNone_some, Option.isNone_none, vcXGb, Tryd.f3, List.toList_toArray, hN,q0,qs,hk0]))
  refine X_grp (N + 1) (N + 2) (N + 3) [0, N] ((endk hN (k := 1)).trans rfl) ((endk hN (k := 2)).trans rfl) ((endk hN (k := 3)).trans rfl) hok.gr.1 hok.gr.2.1 (by decide) (by simp; try omega) (by simp; try omega) (fun i hi => by rw [end_len hN]; simp at hi ⊢; omega) (by simp only [pickH_cons, pickH_nil, consH_some, List.getElem?_cons_zero, hN, q0, qs, hk0]; simp) fun β1 w1 hR1 hG hK => ?_
  have hz0 : ¬ N = 0 := by omega
  have hy0 : ¬ 0 = N := by omega
  have hy1 : ¬ 1 = N := by omega
  have hMN : ¬ N + 1 = N := by omega
  have hO := gv_one hpre hR1 (L := [0, N]) (fun i hi => by rw [end_len hN]; simp at hi ⊢; omega)
  clear hR1 hK hLi hd hgv hpre
  simp -implicitDefEqProofs (maxSteps := 1000000) (disch := first | exact dz2 | fail) only [vcR, vcT, Int.reduceBEq, Int.reduceBNe, Int.reduceEq, Int.reduceNe, Ab.part, Nat.reduceAdd, Nat.reduceMul, Nat.reduceLeDiff, Nat.reduceEqDiff, Nat.reduceBEq, Nat.reduceBNe, reduceCtorEq, ↓reduceIte, implies_true, forall_const, Int.reduceNeg, Int.reduceToNat, Int.reduceLT, Int.reduceLE, Int.reduceAdd, Int.reduceSub, Int.reduceMul, Int.reducePow, Nat.reducePow, true_or, Option.isNone_some, Option.isNone_none, vcXGb, Tryd.f3, List.toList_toArray, hN,q0,qs,hk0,hz0,hy0,hy1,hMN]
  obtain ⟨k, hk⟩ : ∃ k, β1 (N + 1) = k := ⟨_, rfl⟩
  obtain ⟨kx, hkx⟩ : ∃ k, β1 (N + 2) = k := ⟨_, rfl⟩
  obtain ⟨kq, hkq⟩ : ∃ k, β1 (N + 3) = k := ⟨_, rfl⟩
  rw [hk, hkx, hkq] at hG
  have hOP := hok.gr.1
  have hOQ := hok.gr.2.1
  have hP2 := hOP.lt
  have hQ2 := hOQ.lt
  have hP1 : 1 < P := hOP.gt
  have hQ0 : 0 < Q := hOQ.pos
  have hg1 : 4 ^ Q % P = 1 := hok.gr.2.2.2.2.2.2
  clear hN0 hn1 hn5 hsm haw hN q0 qs hk0 hz0 hy0 hy1 hMN
  try simp -implicitDefEqProofs (maxSteps := 1000000) (disch := first | exact dz2 | fail) only [vcR, vcT, Int.reduceBEq, Int.reduceBNe, Int.reduceEq, Int.reduceNe, Ab.part, Nat.reduceAdd, Nat.reduceMul, Nat.reduceLeDiff, Nat.reduceEqDiff, Nat.reduceBEq, Nat.reduceBNe, reduceCtorEq, ↓reduceIte, implies_true, forall_const, Int.reduceNeg, Int.reduceToNat, Int.reduceLT, Int.reduceLE, Int.reduceAdd, Int.reduceSub, Int.reduceMul, Int.reducePow, Nat.reducePow, true_or, Option.isNone_some, Option.isNone_none, vcXGb, Tryd.f3, List.toList_toArray, hk,hkx,hkq]
  clear hkx hkq
  have e1 : ∀ i, PureC Tryd.prog 16 [.agg (nat4 P), .agg (nat4 (4 ^ i % P)), .agg (nat4 4)] (.agg (nat4 (4 ^ (i + 1) % P))) := fun i => by
    have h := rmtimes_c P (4 ^ i % P) 4 hOP.pos hP2 hOP.mod_lt (by decide)
    rwa [Nat.mul_mod, Nat.mod_mod, ← Nat.mul_mod, ← Nat.pow_succ] at h
  have hq : wd Q 0 = Q := by rw [wd_small Q hok.lt]
  have hlt := hok.lt
  (repeat' ((first | with_reducible (first | apply XQ_cons | apply XQ_consG | apply XQ_nil | apply XR_cons | apply XR_consG | apply XR_nil | apply cF_pure2 (by assumption) | apply cV_pure2 (by assumption) | apply cF_ev2 (by assumption) | apply cV_ev2 (by assumption) | apply cF_pure2 (rdiv_c _ _ bd2 bd2 bd2) | apply cV_pure2 (rdiv_c _ _ bd2 bd2 bd2) | apply cF_pure2 (rmtimes_c _ _ _ bd2 bd2 bd2 bd2) | apply cV_pure2 (rmtimes_c _ _ _ bd2 bd2 bd2 bd2)) | ((with_reducible apply cF_new2 (by assumption)); (first | rintro _ _ ⟨rfl, rfl⟩ | rintro _ _ ⟨_, _, rfl, rfl⟩)) | with_reducible (first | apply X_regRS (id := 2) | apply X_regR (id := 2) | apply X_seqX (x := .seq (.region 2 _ false) _) | apply X_seqX (x := .seq (.seq (.region 2 _ false) _) _) | apply X_regRS (id := 3) | apply X_regR (id := 3) | apply X_seqX (x := .seq (.region 3 _ false) _) | apply X_seqX (x := .seq (.seq (.region 3 _ false) _) _) | apply X_regRS (id := 15) | apply X_regR (id := 15) | apply X_seqX (x := .seq (.region 15 _ false) _) | apply X_seqX (x := .seq (.seq (.region 15 _ false) _) _) | apply X_regRS (id := 16) | apply X_regR (id := 16) | apply X_seqX (x := .seq (.region 16 _ false) _) | apply X_seqX (x := .seq (.seq (.region 16 _ false) _) _) | apply X_regRS (id := 17) | apply X_regR (id := 17) | apply X_seqX (x := .seq (.region 17 _ false) _) | apply X_seqX (x := .seq (.seq (.region 17 _ false) _) _)) | (with_reducible apply X_drawC (id := 19) 25; (next => (kernel_rfl)); (next => (kernel_rfl))) | refine X_of _ ?_ | with_reducible (first | exact ⟨_, rfl⟩ | refine And.intro ?_ ?_ | intro _)) <;> try simp -implicitDefEqProofs (maxSteps := 1000000) (disch := first | exact dz2 | fail) only [vcR, vcT, Int.reduceBEq, Int.reduceBNe, Int.reduceEq, Int.reduceNe, Ab.part, Nat.reduceAdd, Nat.reduceMul, Nat.reduceLeDiff, Nat.reduceEqDiff, Nat.reduceBEq, Nat.reduceBNe, reduceCtorEq, ↓reduceIte, implies_true, forall_const, Int.reduceNeg, Int.reduceToNat, Int.reduceLT, Int.reduceLE, Int.reduceAdd, Int.reduceSub, Int.reduceMul, Int.reducePow, Nat.reducePow, true_or, Option.isNone_some, Option.isNone_none, vcXGb, Tryd.f3, List.toList_toArray, arr4_zero, nat4_set1, nat4_setL, nat4_set0, hk,hq]))
  refine X_loop (ι := Nat) (fun i => i ≤ Q) (fun i => Q - i) [15, 17, 47, 48, 49, 50, 51, 52, 53, 54, 55, 56, 57, 58, 59, 60, 61, 62, 63]
    (fun i => [(15, .s (.v (.bool (foundB P 4 a i)))), (17, .s (.v (.int .u64 (i : Nat))))])
    (fun i => [(2, nat4 (4 ^ i % P))]) 0 (shape_of fun i => ?_) (by decide) ?_ ?_
  · simp only [List.length_cons, List.length_nil, List.map_cons, List.map_nil, List.nodup_cons, List.nodup_nil, List.mem_cons, Nat.reduceAdd, Nat.reduceEqDiff, or_false, not_false_eq_true, forall_eq_or_imp, forall_eq, or_self, Nat.reduceLT, Nat.reduceLeDiff, and_self, List.forall_mem_cons, List.not_mem_nil, false_implies, implies_true, and_true, true_and, vcOGb]
  · simp -implicitDefEqProofs (maxSteps := 1000000) (disch := first | exact dz2 | fail) only [vcR, vcT, Int.reduceBEq, Int.reduceBNe, Int.reduceEq, Int.reduceNe, Ab.part, Nat.reduceAdd, Nat.reduceMul, Nat.reduceLeDiff, Nat.reduceEqDiff, Nat.reduceBEq, Nat.reduceBNe, reduceCtorEq, ↓reduceIte, implies_true, forall_const, Int.reduceNeg, Int.reduceToNat, Int.reduceLT, Int.reduceLE, Int.reduceAdd, Int.reduceSub, Int.reduceMul, Int.reducePow, Nat.reducePow, true_or, Option.isNone_some, Option.isNone_none, vcXGb, Tryd.f3, List.toList_toArray, again_eq]
    have h0 : 4 ^ 0 % P = 1 := Nat.mod_eq_of_lt hP1
    rw [h0]
    exact ⟨rfl, _, rfl, rfl⟩
  · intro i us hi
    by_cases h : i < Q
    · have hb := found_succ (P := P) (G := 4) (a := a) (n := i)
      have hri : 4 ^ i % P < 2 ^ 256 := hOP.mod_lt
      have e2 := e1 i
      obtain ⟨r, hr⟩ : ∃ r, 4 ^ i % P = r := ⟨_, rfl⟩
      obtain ⟨r', hr'⟩ : ∃ r', 4 ^ (i + 1) % P = r' := ⟨_, rfl⟩
      rw [hr] at hri hb e2 ⊢
      rw [hr'] at e2
      cases hf : foundB P 4 a i with
      | true =>
        rw [hf] at hb
        (repeat' ((first | with_reducible (first | apply XQ_cons | apply XQ_consG | apply XQ_nil | apply XR_cons | apply XR_consG | apply XR_nil | apply cF_pure2 (by assumption) | apply cV_pure2 (by assumption) | apply cF_ev2 (by assumption) | apply cV_ev2 (by assumption) | apply cF_pure2 (rdiv_c _ _ bd2 bd2 bd2) | apply cV_pure2 (rdiv_c _ _ bd2 bd2 bd2)) | ((with_reducible apply cF_new2 (by assumption)); (first | rintro _ _ ⟨rfl, rfl⟩ | rintro _ _ ⟨_, _, rfl, rfl⟩)) | with_reducible (first | apply X_regRS (id := 2) | apply X_regR (id := 2) | apply X_seqX (x := .seq (.region 2 _ false) _) | apply X_seqX (x := .seq (.seq (.region 2 _ false) _) _) | apply X_regRS (id := 3) | apply X_regR (id := 3) | apply X_seqX (x := .seq (.region 3 _ false) _) | apply X_seqX (x := .seq (.seq (.region 3 _ false) _) _) | apply X_regRS (id := 15) | apply X_regR (id := 15) | apply X_seqX (x := .seq (.region 15 _ false) _) | apply X_seqX (x := .seq (.seq (.region 15 _ false) _) _) | apply X_regRS (id := 16) | apply X_regR (id := 16) | apply X_seqX (x := .seq (.region 16 _ false) _) | apply X_seqX (x := .seq (.seq (.region 16 _ false) _) _) | apply X_regRS (id := 17) | apply X_regR (id := 17) | apply X_seqX (x := .seq (.region 17 _ false) _) | apply X_seqX (x := .seq (.seq (.region 17 _ false) _) _)) | (with_reducible apply X_drawC (id := 19) 25; (next => (kernel_rfl)); (next => (kernel_rfl))) | refine X_of _ ?_ | with_reducible (first | exact ⟨_, rfl⟩ | refine And.intro ?_ ?_ | intro _)) <;> try simp -implicitDefEqProofs (maxSteps := 1000000) (disch := first | exact dz2 | fail) only [vcR, vcT, Int.reduceBEq, Int.reduceBNe, Int.reduceEq, Int.reduceNe, Ab.part, Nat.reduceAdd, Nat.reduceMul, Nat.reduceLeDiff, Nat.reduceEqDiff, Nat.reduceBEq, Nat.reduceBNe, reduceCtorEq, ↓reduceIte, implies_true, forall_const, Int.reduceNeg, Int.reduceToNat, Int.reduceLT, Int.reduceLE, Int.reduceAdd, Int.reduceSub, Int.reduceMul, Int.reducePow, Nat.reducePow, true_or, Option.isNone_some, Option.isNone_none, vcXGb, Tryd.f3, List.toList_toArray, arr4_zero, nat4_set1, nat4_setL, nat4_set0, hk]))
        refine ⟨i + 1, by omega, ?_⟩
        simp -implicitDefEqProofs (maxSteps := 1000000) (disch := first | exact dz2 | fail) only [vcR, vcT, Int.reduceBEq, Int.reduceBNe, Int.reduceEq, Int.reduceNe, Ab.part, Nat.reduceAdd, Nat.reduceMul, Nat.reduceLeDiff, Nat.reduceEqDiff, Nat.reduceBEq, Nat.reduceBNe, reduceCtorEq, ↓reduceIte, implies_true, forall_const, Int.reduceNeg, Int.reduceToNat, Int.reduceLT, Int.reduceLE, Int.reduceAdd, Int.reduceSub, Int.reduceMul, Int.reducePow, Nat.reducePow, true_or, Option.isNone_some, Option.isNone_none, vcXGb, Tryd.f3, List.toList_toArray, again_eq,hr',hb]
        exact ⟨_, rfl⟩
      | false =>
        rw [hf] at hb
        (repeat' ((first | with_reducible (first | apply XQ_cons | apply XQ_consG | apply XQ_nil | apply XR_cons | apply XR_consG | apply XR_nil | apply cF_pure2 (by assumption) | apply cV_pure2 (by assumption) | apply cF_ev2 (by assumption) | apply cV_ev2 (by assumption) | apply cF_pure2 (rdiv_c _ _ bd2 bd2 bd2) | apply cV_pure2 (rdiv_c _ _ bd2 bd2 bd2)) | ((with_reducible apply cF_new2 (by assumption)); (first | rintro _ _ ⟨rfl, rfl⟩ | rintro _ _ ⟨_, _, rfl, rfl⟩)) | with_reducible (first | apply X_regRS (id := 2) | apply X_regR (id := 2) | apply X_seqX (x := .seq (.region 2 _ false) _) | apply X_seqX (x := .seq (.seq (.region 2 _ false) _) _) | apply X_regRS (id := 3) | apply X_regR (id := 3) | apply X_seqX (x := .seq (.region 3 _ false) _) | apply X_seqX (x := .seq (.seq (.region 3 _ false) _) _) | apply X_regRS (id := 15) | apply X_regR (id := 15) | apply X_seqX (x := .seq (.region 15 _ false) _) | apply X_seqX (x := .seq (.seq (.region 15 _ false) _) _) | apply X_regRS (id := 16) | apply X_regR (id := 16) | apply X_seqX (x := .seq (.region 16 _ false) _) | apply X_seqX (x := .seq (.seq (.region 16 _ false) _) _) | apply X_regRS (id := 17) | apply X_regR (id := 17) | apply X_seqX (x := .seq (.region 17 _ false) _) | apply X_seqX (x := .seq (.seq (.region 17 _ false) _) _)) | (with_reducible apply X_drawC (id := 19) 25; (next => (kernel_rfl)); (next => (kernel_rfl))) | refine X_of _ ?_ | with_reducible (first | exact ⟨_, rfl⟩ | refine And.intro ?_ ?_ | intro _)) <;> try simp -implicitDefEqProofs (maxSteps := 1000000) (disch := first | exact dz2 | fail) only [vcR, vcT, Int.reduceBEq, Int.reduceBNe, Int.reduceEq, Int.reduceNe, Ab.part, Nat.reduceAdd, Nat.reduceMul, Nat.reduceLeDiff, Nat.reduceEqDiff, Nat.reduceBEq, Nat.reduceBNe, reduceCtorEq, ↓reduceIte, implies_true, forall_const, Int.reduceNeg, Int.reduceToNat, Int.reduceLT, Int.reduceLE, Int.reduceAdd, Int.reduceSub, Int.reduceMul, Int.reducePow, Nat.reducePow, true_or, Option.isNone_some, Option.isNone_none, vcXGb, Tryd.f3, List.toList_toArray, arr4_zero, nat4_set1, nat4_setL, nat4_set0, hk]))
        refine ⟨i + 1, by omega, ?_⟩
        simp -implicitDefEqProofs (maxSteps := 1000000) (disch := first | exact dz2 | fail) only [vcR, vcT, Int.reduceBEq, Int.reduceBNe, Int.reduceEq, Int.reduceNe, Ab.part, Nat.reduceAdd, Nat.reduceMul, Nat.reduceLeDiff, Nat.reduceEqDiff, Nat.reduceBEq, Nat.reduceBNe, reduceCtorEq, ↓reduceIte, implies_true, forall_const, Int.reduceNeg, Int.reduceToNat, Int.reduceLT, Int.reduceLE, Int.reduceAdd, Int.reduceSub, Int.reduceMul, Int.reducePow, Nat.reducePow, true_or, Option.isNone_some, Option.isNone_none, vcXGb, Tryd.f3, List.toList_toArray, again_eq,hr',hb]
        exact ⟨_, rfl⟩
    · have : i = Q := by omega
      subst this
      clear e1 h hi
      have hni : n % i < i := Nat.mod_lt _ hQ0
      have hci : c % i < i := Nat.mod_lt _ hQ0
      have e2 := gMember_e k kx kq P i 4 a hP2 hQ2 ha
      rw [few_member hOP.pos hok.few] at e2
      have e3 := gBase_e k kx kq P i 4 (n % i) (by decide) (by omega)
      have e4 := gBase_e k kx kq P i 4 (c % i) (by decide) (by omega)
      have e5 := rdiv_c n i (by omega) hQ2 hQ0
      have hd := few_inj hP1 hg1 hok.few hni hci
      have hu2 : 4 ^ (n % i) % P < 2 ^ 256 := hOP.mod_lt
      have hv2 : 4 ^ (c % i) % P < 2 ^ 256 := hOP.mod_lt
      obtain ⟨u, hu⟩ : ∃ u, 4 ^ (n % i) % P = u := ⟨_, rfl⟩
      obtain ⟨v, hv⟩ : ∃ v, 4 ^ (c % i) % P = v := ⟨_, rfl⟩
      rw [hu] at hd e3 hu2
      rw [hv] at hd e4 hv2
      obtain ⟨f, hf⟩ : ∃ f, foundB P 4 a i = f := ⟨_, rfl⟩
      rw [hf] at e2 ⊢
      clear hu hv hf hok hg1
      have hw1 := nat_word (x := n % i) (by omega)
      have hw2 := nat_word (x := c % i) (by omega)
      have hw3 := nat_word (x := n) hn
      have hi0 : ¬ (i : Int) = 0 := by omega
      have hbb : (decide (n % i = c % i) == (n % i == c % i)) = true := by rw [show (n % i == c % i) = decide (n % i = c % i) from rfl]; exact beq_self_eq_true _
      (repeat' ((first | with_reducible (first | apply XQ_cons | apply XQ_consG | apply XQ_nil | apply XR_cons | apply XR_consG | apply XR_nil | apply cF_pure2 (by assumption) | apply cV_pure2 (by assumption) | apply cF_ev2 (by assumption) | apply cV_ev2 (by assumption) | apply cF_pure2 (rmtimes_c _ _ _ bd2 bd2 bd2 bd2) | apply cV_pure2 (rmtimes_c _ _ _ bd2 bd2 bd2 bd2)) | ((with_reducible apply cF_new2 (by assumption)); (first | rintro _ _ ⟨rfl, rfl⟩ | rintro _ _ ⟨_, _, rfl, rfl⟩)) | with_reducible (first | apply X_regRS (id := 2) | apply X_regR (id := 2) | apply X_seqX (x := .seq (.region 2 _ false) _) | apply X_seqX (x := .seq (.seq (.region 2 _ false) _) _) | apply X_regRS (id := 3) | apply X_regR (id := 3) | apply X_seqX (x := .seq (.region 3 _ false) _) | apply X_seqX (x := .seq (.seq (.region 3 _ false) _) _) | apply X_regRS (id := 15) | apply X_regR (id := 15) | apply X_seqX (x := .seq (.region 15 _ false) _) | apply X_seqX (x := .seq (.seq (.region 15 _ false) _) _) | apply X_regRS (id := 16) | apply X_regR (id := 16) | apply X_seqX (x := .seq (.region 16 _ false) _) | apply X_seqX (x := .seq (.seq (.region 16 _ false) _) _) | apply X_regRS (id := 17) | apply X_regR (id := 17) | apply X_seqX (x := .seq (.region 17 _ false) _) | apply X_seqX (x := .seq (.seq (.region 17 _ false) _) _)) | (with_reducible apply X_drawC (id := 19) 25; (next => (kernel_rfl)); (next => (kernel_rfl))) | refine X_of _ ?_ | with_reducible (first | exact ⟨_, rfl⟩ | refine And.intro ?_ ?_ | intro _)) <;> try simp -implicitDefEqProofs (maxSteps := 1000000) (disch := first | exact dz2 | fail) only [vcR, vcT, Int.reduceBEq, Int.reduceBNe, Int.reduceEq, Int.reduceNe, Ab.part, Nat.reduceAdd, Nat.reduceMul, Nat.reduceLeDiff, Nat.reduceEqDiff, Nat.reduceBEq, Nat.reduceBNe, reduceCtorEq, ↓reduceIte, implies_true, forall_const, Int.reduceNeg, Int.reduceToNat, Int.reduceLT, Int.reduceLE, Int.reduceAdd, Int.reduceSub, Int.reduceMul, Int.reducePow, Nat.reducePow, true_or, Option.isNone_some, Option.isNone_none, vcXGb, Tryd.f3, List.toList_toArray, arr4_zero, nat4_set1, nat4_setL, nat4_set0, hk,hq,hd,hw1,hw2,hw3,hi0,hbb]))
end Go.Proofs.YtdmcknmjdlghgaaDoor
