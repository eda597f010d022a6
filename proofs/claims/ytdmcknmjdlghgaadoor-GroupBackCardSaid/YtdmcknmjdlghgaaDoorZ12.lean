/-
  GroupBack: each member has one that makes 1 with it.
-/
import Derived.WalkKit
import Derived.StillTail
import Derived.Deep.MidRow
import Derived.DeepKeys
import Derived.Deep.LoopGhost
import Derived.Deep.Quiet
import Derived.Laws.AppendOwn
import Derived.Laws.MakeOwn
import Derived.Laws.Cover3
import Derived.Laws.IdiomCopy
import Derived.Laws.CopyRow
import Derived.Laws.BitsAllLaws
import Derived.Laws.Bits128
import Derived.Lib.BitFns
import Derived.DeepKeys3
import Derived.MapKept
import Derived.Test.YtdmcknmjdlghgaaDoorProg
import Derived.Shelf.Bits.Mul64
import Derived.Shelf.Strconv.Itoa0
import Derived.Shelf.Spec.BitsCarry
import Derived.Tactics
import Derived.Tactics2
import Derived.Defers
import Derived.Laws.Pointers
import Derived.Laws.LoneSync
import Derived.RegionTactic
import Derived.RegionCalls
import Derived.ChangeAlike
import Derived.KernelRfl
import Derived.Laws.NewBlocks
import Derived.Test.YtdmcknmjdlghgaaDoorZ01
import Derived.Test.YtdmcknmjdlghgaaDoorZ02
import Derived.Test.YtdmcknmjdlghgaaDoorZ03
import Derived.Test.YtdmcknmjdlghgaaDoorZ04
import Derived.Test.YtdmcknmjdlghgaaDoorZ07
import Derived.Test.YtdmcknmjdlghgaaDoorZ09
import Derived.Test.YtdmcknmjdlghgaaDoorZ11
namespace Go.Proofs.YtdmcknmjdlghgaaDoor
open Go Go.Ab
set_option linter.unusedSimpArgs false
set_option linter.unusedVariables false
set_option linter.defProp false
set_option maxHeartbeats 20000000
set_option maxRecDepth 100000


theorem groupBack_m (z : Int) (hz : IntKind.i64.min ≤ z ∧ z ≤ IntKind.i64.max) (a : Nat) (ha : a < 2 ^ 256) :
    PureM Tryd.prog 6 [.s (.v (.int .i64 z)), .agg (nat4 a)] gv (.s (.v (.bool true))) := by
  clear hz
  have hsm := small_g z
  have hok := sm_ok z
  obtain ⟨P, hP⟩ : ∃ P, smP z = P := ⟨_, rfl⟩
  obtain ⟨Q, hQ⟩ : ∃ Q, smQ z = Q := ⟨_, rfl⟩
  rw [hP, hQ] at hsm hok
  clear hP hQ
  have haw := gawake_m.ev (V := Evo.none)
  (refine pureM_of Tryd.func6 rfl (by simp only [List.length_cons, List.length_nil, List.map_cons, List.map_nil, List.nodup_cons, List.nodup_nil, List.mem_cons, Nat.reduceAdd, Nat.reduceEqDiff, or_false, not_false_eq_true, forall_eq_or_imp, forall_eq, or_self, Nat.reduceLT, Nat.reduceLeDiff, and_self, List.forall_mem_cons, List.not_mem_nil, false_implies, implies_true, and_true, true_and, vcOGb]) (by simp only [List.length_cons, List.length_nil, List.map_cons, List.map_nil, List.nodup_cons, List.nodup_nil, List.mem_cons, Nat.reduceAdd, Nat.reduceEqDiff, or_false, not_false_eq_true, forall_eq_or_imp, forall_eq, or_self, Nat.reduceLT, Nat.reduceLeDiff, and_self, List.forall_mem_cons, List.not_mem_nil, false_implies, implies_true, and_true, true_and, vcOGb]) fun w hpre => ?_; simp only [List.length_cons, List.length_nil, Tryd.ntmps6, Nat.reduceAdd, Nat.reduceSub, List.replicate_succ, List.replicate_zero, List.cons_append, List.nil_append])
  have hgv := gv_kn (P0 := Tryd.prog) hpre
  (repeat' ((first | with_reducible (first | apply XR_cons | apply XR_consG | apply XR_nil | apply cF_pure2 (by assumption) | apply cF_ev2 (by assumption)) | ((with_reducible apply cF_new2 (by assumption)); (first | rintro _ _ ⟨rfl, rfl⟩ | rintro _ _ ⟨_, _, rfl, rfl⟩)) | with_reducible (first | apply X_regRS (id := 2) | apply X_regR (id := 2) | apply X_seqX (x := .seq (.region 2 _ false) _) | apply X_seqX (x := .seq (.seq (.region 2 _ false) _) _) | apply X_regRS (id := 3) | apply X_regR (id := 3) | apply X_seqX (x := .seq (.region 3 _ false) _) | apply X_seqX (x := .seq (.seq (.region 3 _ false) _) _) | apply X_regRS (id := 6) | apply X_regR (id := 6) | apply X_seqX (x := .seq (.region 6 _ false) _) | apply X_seqX (x := .seq (.seq (.region 6 _ false) _) _) | apply X_regRS (id := 7) | apply X_regR (id := 7) | apply X_seqX (x := .seq (.region 7 _ false) _) | apply X_seqX (x := .seq (.seq (.region 7 _ false) _) _) | apply X_regRS (id := 8) | apply X_regR (id := 8) | apply X_seqX (x := .seq (.region 8 _ false) _) | apply X_seqX (x := .seq (.seq (.region 8 _ false) _) _) | apply X_regRS (id := 11) | apply X_regR (id := 11) | apply X_seqX (x := .seq (.region 11 _ false) _) | apply X_seqX (x := .seq (.seq (.region 11 _ false) _) _) | apply X_regRS (id := 12) | apply X_regR (id := 12) | apply X_seqX (x := .seq (.region 12 _ false) _) | apply X_seqX (x := .seq (.seq (.region 12 _ false) _) _) | apply X_regRS (id := 13) | apply X_regR (id := 13) | apply X_seqX (x := .seq (.region 13 _ false) _) | apply X_seqX (x := .seq (.seq (.region 13 _ false) _) _) | apply X_condX (c := .tmp 63) | apply X_seqX (x := .cond (.tmp 63) _ _)) | refine X_of _ ?_ | with_reducible (first | exact ⟨_, rfl⟩ | refine And.intro ?_ ?_ | intro _)) <;> try simp -implicitDefEqProofs (maxSteps := 1000000) (disch := first | exact dz2 | fail) only [vcR, vcT, Int.reduceBEq, Int.reduceBNe, Int.reduceEq, Int.reduceNe, Ab.part, Nat.reduceAdd, Nat.reduceMul, Nat.reduceLeDiff, Nat.reduceEqDiff, Nat.reduceBEq, Nat.reduceBNe, reduceCtorEq, ↓reduceIte, implies_true, forall_const, Int.reduceNeg, Int.reduceToNat, Int.reduceLT, Int.reduceLE, Int.reduceAdd, Int.reduceSub, Int.reduceMul, Int.reducePow, Nat.reducePow, true_or, Option.isNone_some, Option.isNone_none, vcXGb, Tryd.f6, List.toList_toArray, arr4_zero, nat4_set1, nat4_setL, nat4_set0]))
  refine yF_small (h0 := 1) hsm rfl (fun _ h => h) rfl ?_
  intro n0 A H1 hn1 hn5 hLi hd hA hN0
  obtain ⟨N, hN⟩ : ∃ N, A.length = N := ⟨_, rfl⟩
  rw [hN] at hN0
  have hk0 : ∀ {B : Heap}, (A ++ B)[0]? = some ⟨24, nat4 a⟩ := by obtain ⟨X, rfl⟩ := hA; intro B; rfl
  have q0 : ∀ {B : Heap}, (A ++ B)[N]? = B[0]? := fun {B} => end0 hN
  have qs : ∀ {B : Heap} {t : Nat} {cs cs' : List SV}, putH (A ++ ⟨t, cs⟩ :: B) N cs' = A ++ ⟨t, cs'⟩ :: B := fun {B t cs cs'} => end_put hN
  clear hA
  try simp -implicitDefEqProofs (maxSteps := 1000000) (disch := first | exact dz2 | fail) only [vcR, vcT, Int.reduceBEq, Int.reduceBNe, Int.reduceEq, Int.reduceNe, Ab.part, Nat.reduceAdd, Nat.reduceMul, Nat.reduceLeDiff, Nat.reduceEqDiff, Nat.reduceBEq, Nat.reduceBNe, reduceCtorEq, ↓reduceIte, implies_true, forall_const, Int.reduceNeg, Int.reduceToNat, Int.reduceLT, Int.reduceLE, Int.reduceAdd, Int.reduceSub, Int.reduceMul, Int.reducePow, Nat.reducePow, true_or, Option.isNone_some, Option.isNone_none, vcXGb, Tryd.f6, List.toList_toArray, hN,q0,qs,hk0]
  (repeat' ((first | with_reducible (first | apply XR_cons | apply XR_consG | apply XR_nil | apply cF_pure2 (by assumption) | apply cF_ev2 (by assumption)) | ((with_reducible apply cF_new2 (by assumption)); (first | rintro _ _ ⟨rfl, rfl⟩ | rintro _ _ ⟨_, _, rfl, rfl⟩)) | with_reducible (first | apply X_regRS (id := 2) | apply X_regR (id := 2) | apply X_seqX (x := .seq (.region 2 _ false) _) | apply X_seqX (x := .seq (.seq (.region 2 _ false) _) _) | apply X_regRS (id := 3) | apply X_regR (id := 3) | apply X_seqX (x := .seq (.region 3 _ false) _) | apply X_seqX (x := .seq (.seq (.region 3 _ false) _) _) | apply X_regRS (id := 6) | apply X_regR (id := 6) | apply X_seqX (x := .seq (.region 6 _ false) _) | apply X_seqX (x := .seq (.seq (.region 6 _ false) _) _) | apply X_regRS (id := 7) | apply X_regR (id := 7) | apply X_seqX (x := .seq (.region 7 _ false) _) | apply X_seqX (x := .seq (.seq (.region 7 _ false) _) _) | apply X_regRS (id := 8) | apply X_regR (id := 8) | apply X_seqX (x := .seq (.region 8 _ false) _) | apply X_seqX (x := .seq (.seq (.region 8 _ false) _) _) | apply X_regRS (id := 11) | apply X_regR (id := 11) | apply X_seqX (x := .seq (.region 11 _ false) _) | apply X_seqX (x := .seq (.seq (.region 11 _ false) _) _) | apply X_regRS (id := 12) | apply X_regR (id := 12) | apply X_seqX (x := .seq (.region 12 _ false) _) | apply X_seqX (x := .seq (.seq (.region 12 _ false) _) _) | apply X_regRS (id := 13) | apply X_regR (id := 13) | apply X_seqX (x := .seq (.region 13 _ false) _) | apply X_seqX (x := .seq (.seq (.region 13 _ false) _) _) | apply X_condX (c := .tmp 63) | apply X_seqX (x := .cond (.tmp 63) _ _)) | refine X_of _ ?_ | with_reducible (first | exact ⟨_, rfl⟩ | refine And.intro ?_ ?_ | intro _)) <;> try simp -implicitDefEqProofs (maxSteps := 1000000) (disch := first | exact dz2 | fail) only [vcR, vcT, Int.reduceBEq, Int.reduceBNe, Int.reduceEq, Int.reduceNe, Ab.part, Nat.reduceAdd, Nat.reduceMul, Nat.reduceLeDiff, Nat.reduceEqDiff, Nat.reduceBEq, Nat.reduceBNe, reduceCtorEq, ↓reduceIte, implies_true, forall_const, Int.reduceNeg, Int.reduceToNat, Int.reduceLT, Int.reduceLE, Int.reduceAdd, Int.reduceSub, Int.reduceMul, Int.reducePow, Nat.reducePow, true_or, Option.isNone_some, Option.isNone_none, vcXGb, Tryd.f6, List.toList_toArray, arr4_zero, nat4_set1, nat4_setL, nat4_set0, hN,q0,qs,hk0]))
  refine yF_new hLi hn5 hd hN hok.gr hgv rfl (fun _ h => h) ?_
  intro bx bq
  (try (first | with_reducible refine X_regRS ?_ | with_reducible refine X_regR ?_ | (with_reducible refine X_seqX ?_; with_reducible refine X_blockX ?_; with_reducible refine X_regR ?_))); (repeat ((first | with_reducible refine XR_make ?_ | with_reducible refine XR_append ?_ | with_reducible refine XR_cons ?_ | with_reducible refine XR_consG ?_ | with_reducible refine XR_nil ?_); try simp -implicitDefEqProofs (maxSteps := 1000000) (disch := first | exact dz2 | fail) only [vcR, vcT, Int.reduceBEq, Int.reduceBNe, Int.reduceEq, Int.reduceNe, Ab.part, Nat.reduceAdd, Nat.reduceMul, Nat.reduceLeDiff, Nat.reduceEqDiff, Nat.reduceBEq, Nat.reduceBNe, reduceCtorEq, ↓reduceIte, implies_true, forall_const, Int.reduceNeg, Int.reduceToNat, Int.reduceLT, Int.reduceLE, Int.reduceAdd, Int.reduceSub, Int.reduceMul, Int.reducePow, Nat.reducePow, true_or, Option.isNone_some, Option.isNone_none, vcXGb, Tryd.f6, List.toList_toArray, hN,q0,qs,hk0]))
  refine X_grp (N + 1) (N + 2) (N + 3) [0, N] ((endk hN (k := 1)).trans rfl) ((endk hN (k := 2)).trans rfl) ((endk hN (k := 3)).trans rfl) hok.gr.1 hok.gr.2.1 (by decide) (by simp; try omega) (by simp; try omega) (fun i hi => by rw [end_len hN]; simp at hi ⊢; omega) (by simp only [pickH_cons, pickH_nil, consH_some, List.getElem?_cons_zero, hN, q0, qs, hk0]; simp) fun β1 w1 hR1 hG hK => ?_
  have hz0 : ¬ N = 0 := by omega
  have hy0 : ¬ 0 = N := by omega
  have hy1 : ¬ 1 = N := by omega
  have hMN : ¬ N + 1 = N := by omega
  have hO := gv_one hpre hR1 (L := [0, N]) (fun i hi => by rw [end_len hN]; simp at hi ⊢; omega)
  clear hR1 hK hLi hd hgv hpre
  simp -implicitDefEqProofs (maxSteps := 1000000) (disch := first | exact dz2 | fail) only [vcR, vcT, Int.reduceBEq, Int.reduceBNe, Int.reduceEq, Int.reduceNe, Ab.part, Nat.reduceAdd, Nat.reduceMul, Nat.reduceLeDiff, Nat.reduceEqDiff, Nat.reduceBEq, Nat.reduceBNe, reduceCtorEq, ↓reduceIte, implies_true, forall_const, Int.reduceNeg, Int.reduceToNat, Int.reduceLT, Int.reduceLE, Int.reduceAdd, Int.reduceSub, Int.reduceMul, Int.reducePow, Nat.reducePow, true_or, Option.isNone_some, Option.isNone_none, vcXGb, Tryd.f6, List.toList_toArray, hN,q0,qs,hk0,hz0,hy0,hy1,hMN]
  obtain ⟨k, hk⟩ : ∃ k, β1 (N + 1) = k := ⟨_, rfl⟩
  obtain ⟨kx, hkx⟩ : ∃ k, β1 (N + 2) = k := ⟨_, rfl⟩
  obtain ⟨kq, hkq⟩ : ∃ k, β1 (N + 3) = k := ⟨_, rfl⟩
  rw [hk, hkx, hkq] at hG
  have hOP := hok.gr.1
  have hOQ := hok.gr.2.1
  have hP2 := hOP.lt
  have hQ2 := hOQ.lt
  have hP1 : 1 < P := hOP.gt
  have hQ0 : 0 < Q := hOQ.pos
  have hg1 : 4 ^ Q % P = 1 := hok.gr.2.2.2.2.2.2
  clear hN0 hn1 hn5 hsm haw hN q0 qs hk0 hz0 hy0 hy1 hMN
  try simp -implicitDefEqProofs (maxSteps := 1000000) (disch := first | exact dz2 | fail) only [vcR, vcT, Int.reduceBEq, Int.reduceBNe, Int.reduceEq, Int.reduceNe, Ab.part, Nat.reduceAdd, Nat.reduceMul, Nat.reduceLeDiff, Nat.reduceEqDiff, Nat.reduceBEq, Nat.reduceBNe, reduceCtorEq, ↓reduceIte, implies_true, forall_const, Int.reduceNeg, Int.reduceToNat, Int.reduceLT, Int.reduceLE, Int.reduceAdd, Int.reduceSub, Int.reduceMul, Int.reducePow, Nat.reducePow, true_or, Option.isNone_some, Option.isNone_none, vcXGb, Tryd.f6, List.toList_toArray, hk,hkx,hkq]
  clear hkx hkq
  have hd2 : Q - 1 < 2 ^ 256 := Nat.lt_of_le_of_lt (Nat.sub_le _ _) hQ2
  have e1 := rsub_c Q 1 (Q - 1) 0 hQ2 (by decide) hd2 (by rw [Nat.mul_zero]; omega)
  have e2 := gExp_e k kx kq P Q 4 a (Q - 1) hP2 hQ2 ha hd2
  have e3 := gExp_e k kx kq P Q 4 a Q hP2 hQ2 ha hQ2
  have e4 := gMember_e k kx kq P Q 4 a hP2 hQ2 ha
  cases hm : memB P Q a with
  | false =>
    rw [exE0 hm] at e2 e3
    rw [hm] at e4
    obtain ⟨u, hu⟩ : ∃ u, muV P Q 1 1 (fun _ => a) (fun _ => Q - 1) = u := ⟨_, rfl⟩
    obtain ⟨v, hv⟩ : ∃ v, muV P Q 1 1 (fun _ => a) (fun _ => Q) = v := ⟨_, rfl⟩
    rw [hu] at e2
    rw [hv] at e3
    obtain ⟨d, hd⟩ : ∃ d, Q - 1 = d := ⟨_, rfl⟩
    rw [hd] at e1 e2 hd2
    clear hu hv hd hm hok hg1
    (repeat' ((first | with_reducible (first | apply XR_cons | apply XR_consG | apply XR_nil | apply cF_pure2 (by assumption) | apply cF_ev2 (by assumption)) | ((with_reducible apply cF_new2 (by assumption)); (first | rintro _ _ ⟨rfl, rfl⟩ | rintro _ _ ⟨_, _, rfl, rfl⟩)) | with_reducible (first | apply X_regRS (id := 2) | apply X_regR (id := 2) | apply X_seqX (x := .seq (.region 2 _ false) _) | apply X_seqX (x := .seq (.seq (.region 2 _ false) _) _) | apply X_regRS (id := 3) | apply X_regR (id := 3) | apply X_seqX (x := .seq (.region 3 _ false) _) | apply X_seqX (x := .seq (.seq (.region 3 _ false) _) _) | apply X_regRS (id := 6) | apply X_regR (id := 6) | apply X_seqX (x := .seq (.region 6 _ false) _) | apply X_seqX (x := .seq (.seq (.region 6 _ false) _) _) | apply X_regRS (id := 7) | apply X_regR (id := 7) | apply X_seqX (x := .seq (.region 7 _ false) _) | apply X_seqX (x := .seq (.seq (.region 7 _ false) _) _) | apply X_regRS (id := 8) | apply X_regR (id := 8) | apply X_seqX (x := .seq (.region 8 _ false) _) | apply X_seqX (x := .seq (.seq (.region 8 _ false) _) _) | apply X_regRS (id := 11) | apply X_regR (id := 11) | apply X_seqX (x := .seq (.region 11 _ false) _) | apply X_seqX (x := .seq (.seq (.region 11 _ false) _) _) | apply X_regRS (id := 12) | apply X_regR (id := 12) | apply X_seqX (x := .seq (.region 12 _ false) _) | apply X_seqX (x := .seq (.seq (.region 12 _ false) _) _) | apply X_regRS (id := 13) | apply X_regR (id := 13) | apply X_seqX (x := .seq (.region 13 _ false) _) | apply X_seqX (x := .seq (.seq (.region 13 _ false) _) _) | apply X_condX (c := .tmp 63) | apply X_seqX (x := .cond (.tmp 63) _ _)) | refine X_of _ ?_ | with_reducible (first | exact ⟨_, rfl⟩ | refine And.intro ?_ ?_ | intro _)) <;> try simp -implicitDefEqProofs (maxSteps := 1000000) (disch := first | exact dz2 | fail) only [vcR, vcT, Int.reduceBEq, Int.reduceBNe, Int.reduceEq, Int.reduceNe, Ab.part, Nat.reduceAdd, Nat.reduceMul, Nat.reduceLeDiff, Nat.reduceEqDiff, Nat.reduceBEq, Nat.reduceBNe, reduceCtorEq, ↓reduceIte, implies_true, forall_const, Int.reduceNeg, Int.reduceToNat, Int.reduceLT, Int.reduceLE, Int.reduceAdd, Int.reduceSub, Int.reduceMul, Int.reducePow, Nat.reducePow, true_or, Option.isNone_some, Option.isNone_none, vcXGb, Tryd.f6, List.toList_toArray, arr4_zero, nat4_set1, nat4_setL, nat4_set0, hk]))
  | true =>
    have hm3 := (mem_is hm).2.2
    have hmr := mem_pow (n := Q - 1) hP1 hQ0 hm3
    have hr2 : a ^ (Q - 1) % P < 2 ^ 256 := hOP.mod_lt
    have e5 := gTimes_e k kx kq P Q 4 a (a ^ (Q - 1) % P) hP2 hQ2 ha hr2
    rw [tmV hm hmr, tmE1 hm hmr, back_law hQ0 hm3] at e5
    rw [exV hm, exE1 hm] at e2 e3
    rw [hm3] at e3
    rw [hm] at e4
    obtain ⟨r, hr⟩ : ∃ r, a ^ (Q - 1) % P = r := ⟨_, rfl⟩
    rw [hr] at e2 e5 hr2
    obtain ⟨d, hd⟩ : ∃ d, Q - 1 = d := ⟨_, rfl⟩
    rw [hd] at e1 e2 hd2
    clear hm3 hmr hr hd hm hok hg1
    (repeat' ((first | with_reducible (first | apply XR_cons | apply XR_consG | apply XR_nil | apply cF_pure2 (by assumption) | apply cF_ev2 (by assumption)) | ((with_reducible apply cF_new2 (by assumption)); (first | rintro _ _ ⟨rfl, rfl⟩ | rintro _ _ ⟨_, _, rfl, rfl⟩)) | with_reducible (first | apply X_regRS (id := 2) | apply X_regR (id := 2) | apply X_seqX (x := .seq (.region 2 _ false) _) | apply X_seqX (x := .seq (.seq (.region 2 _ false) _) _) | apply X_regRS (id := 3) | apply X_regR (id := 3) | apply X_seqX (x := .seq (.region 3 _ false) _) | apply X_seqX (x := .seq (.seq (.region 3 _ false) _) _) | apply X_regRS (id := 6) | apply X_regR (id := 6) | apply X_seqX (x := .seq (.region 6 _ false) _) | apply X_seqX (x := .seq (.seq (.region 6 _ false) _) _) | apply X_regRS (id := 7) | apply X_regR (id := 7) | apply X_seqX (x := .seq (.region 7 _ false) _) | apply X_seqX (x := .seq (.seq (.region 7 _ false) _) _) | apply X_regRS (id := 8) | apply X_regR (id := 8) | apply X_seqX (x := .seq (.region 8 _ false) _) | apply X_seqX (x := .seq (.seq (.region 8 _ false) _) _) | apply X_regRS (id := 11) | apply X_regR (id := 11) | apply X_seqX (x := .seq (.region 11 _ false) _) | apply X_seqX (x := .seq (.seq (.region 11 _ false) _) _) | apply X_regRS (id := 12) | apply X_regR (id := 12) | apply X_seqX (x := .seq (.region 12 _ false) _) | apply X_seqX (x := .seq (.seq (.region 12 _ false) _) _) | apply X_regRS (id := 13) | apply X_regR (id := 13) | apply X_seqX (x := .seq (.region 13 _ false) _) | apply X_seqX (x := .seq (.seq (.region 13 _ false) _) _) | apply X_condX (c := .tmp 63) | apply X_seqX (x := .cond (.tmp 63) _ _)) | refine X_of _ ?_ | with_reducible (first | exact ⟨_, rfl⟩ | refine And.intro ?_ ?_ | intro _)) <;> try simp -implicitDefEqProofs (maxSteps := 1000000) (disch := first | exact dz2 | fail) only [vcR, vcT, Int.reduceBEq, Int.reduceBNe, Int.reduceEq, Int.reduceNe, Ab.part, Nat.reduceAdd, Nat.reduceMul, Nat.reduceLeDiff, Nat.reduceEqDiff, Nat.reduceBEq, Nat.reduceBNe, reduceCtorEq, ↓reduceIte, implies_true, forall_const, Int.reduceNeg, Int.reduceToNat, Int.reduceLT, Int.reduceLE, Int.reduceAdd, Int.reduceSub, Int.reduceMul, Int.reducePow, Nat.reducePow, true_or, Option.isNone_some, Option.isNone_none, vcXGb, Tryd.f6, List.toList_toArray, arr4_zero, nat4_set1, nat4_setL, nat4_set0, hk]))
end Go.Proofs.YtdmcknmjdlghgaaDoor
