/-
  Products of images: mont.Mod.Mul, To, From.
-/
import Derived.Test.YthniflakjkbpiaaDoorAb26
import Derived.Test.YthniflakjkbpiaaDoorM4
import Derived.Test.YthniflakjkbpiaaDoorKO
namespace Go.Proofs.YthniflakjkbpiaaDoor
open Go Go.Ab
set_option linter.unusedSimpArgs false
set_option linter.unusedVariables false
set_option linter.defProp false
set_option maxHeartbeats 20000000
set_option maxRecDepth 100000

theorem ready_o (m : Nat) (b : Bool) (hG : OddM m) : OwnC Tryd.prog 55 [.s (.p 0 0)] [⟨86, modS m b⟩] [⟨86, modc m 1 0 (mi m) (sqm m)⟩] (.tup []) := by
  cases b with
  | true => exact ready_again m
  | false => exact ready_first m hG.lt hG.pos
theorem tu_wd (m X : Nat) : wd X 0 * mi m % 18446744073709551616 = tu m X := by
  unfold tu wd
  rw [Nat.mul_zero, Nat.pow_zero, Nat.div_one]
theorem wd_div (Z i : Nat) : wd (Z / 18446744073709551616) i = wd Z (i + 1) := by
  unfold wd
  rw [Nat.div_div_eq_div_mul, P_succ, Nat.mul_comm]
theorem shift6 (Z n : Nat) (hn : n = 384) (h : Z < 2 ^ n) : ((((arr 6 (wd Z)).drop 1).take 5 ++ (arr 6 (wd Z)).drop 5).set 5 (.v (.int .u64 0))) = arr 6 (wd (Z / 18446744073709551616)) := by
  have h5 : wd (Z / 18446744073709551616) 5 = 0 := by rw [wd_div]; exact wd_big2 Z 6 n h (by omega)
  have e : ∀ f : Nat → Nat, arr 6 f = [.v (.int .u64 (f 0)), .v (.int .u64 (f 1)), .v (.int .u64 (f 2)), .v (.int .u64 (f 3)), .v (.int .u64 (f 4)), .v (.int .u64 (f 5))] := fun f => rfl
  rw [e, e, h5]
  simp only [wd_div]
  rfl
theorem len6 (f : Nat → Nat) : (((arr 6 f).drop 1).take 5 ++ (arr 6 f).drop 5).length = 6 := rfl
theorem part6_one (f : Nat → Nat) : oneAll (Ab.part (arr 6 f) 1 (min 5 (6 - 0))) := by
  rw [part_eq]
  exact fun x hx => (of_eq_true arr_one) x (List.mem_of_mem_drop (List.mem_of_mem_take hx))
theorem arr_take4 (T : Nat) : (arr 6 (wd T)).take 4 = nat4 T := rfl
theorem arr_get4 (f : Nat → Nat) : (arr 6 f)[4]? = some (.v (.int .u64 (f 4 : Int))) := rfl
theorem arr_get0 (f : Nat → Nat) : (arr 6 f)[0]? = some (.v (.int .u64 (f 0 : Int))) := rfl


theorem mul_o (m : Nat) (b : Bool) (x y : Nat) (hG : OddM m) (hx : x < 2 ^ 256) (hy : y < 2 ^ 256) :
    OwnC Tryd.prog 46 [.s (.p 0 0), .agg (nat4 x), .agg (nat4 y)] [⟨86, modS m b⟩] [⟨86, modc m 1 0 (mi m) (sqm m)⟩] (.agg (nat4 (mo m (x * y)))) := by
  have hr := ready_o m b hG
  have h1 := below_o m 1 0 (mi m) (sqm m) x hG.lt hG.pos hx
  have h2 := below_o m 1 0 (mi m) (sqm m) y hG.lt hG.pos hy
  have ha : x % m < 2 ^ 256 := hG.mod_lt
  have hc : y % m < m := Nat.mod_lt _ hG.pos
  have hend : mo m (x * y) = moN 256 m (x % m * (y % m)) := moN_mod (by rw [← Nat.mul_mod])
  rw [hend]
  clear hend
  obtain ⟨a, hae⟩ : ∃ a, x % m = a := ⟨_, rfl⟩
  obtain ⟨c, hce⟩ : ∃ c, y % m = c := ⟨_, rfl⟩
  rw [hae] at h1 ha
  rw [hce] at h2 hc
  rw [hae, hce]
  have hX := fun k => tm_X (a := a) hc k 384 rfl hG.lt
  have hmi := mi_lt m
  have h3 := fun k => row_o (tm m a c k) (wd a k) c 384 rfl (wd_lt a k) (Nat.lt_trans hc hG.lt) (hX k).1
  have h4 := fun k => row_o (tm m a c k + wd a k * c) (tu m (tm m a c k + wd a k * c)) m 384 rfl (tu_lt m _) hG.lt (hX k).2
  have h5 := fun k => shift6 (tm m a c k + wd a k * c + tu m (tm m a c k + wd a k * c) * m) 384 rfl (hX k).2
  have h6 : ∀ k, (tm m a c k + wd a k * c + tu m (tm m a c k + wd a k * c) * m) / 18446744073709551616 = tm m a c (k + 1) := fun k => rfl
  have hte := tm_end hG.odd hc ha
  have htl : tm m a c 4 < 2 * m := tm_lt hc 4
  have h7 := less_o m 1 0 (mi m) (sqm m) (tm m a c 4 % 2 ^ 256) (tm m a c 4 / 2 ^ 256) (moN 256 m (a * c)) hG.lt (Nat.mod_lt _ (by decide)) (by have := hG.lt; omega) (by rw [Nat.add_comm, Nat.div_add_mod]; exact htl) (by rw [Nat.add_comm, Nat.div_add_mod]; exact hte.symm)
  rw [nat4_mod] at h7
  have h8 : wd (tm m a c 4) 4 = tm m a c 4 / 2 ^ 256 := by
    show tm m a c 4 / 2 ^ 256 % 2 ^ 64 = _
    exact Nat.mod_eq_of_lt (by have := hG.lt; omega)
  rw [← h8] at h7
  clear h8 hte htl hae hce hx hy hG hX
  (refine own_of Tryd.func46 rfl (by simp only [List.length_cons, List.length_nil, List.map_cons, List.map_nil, List.nodup_cons, List.nodup_nil, List.mem_cons, Nat.reduceAdd, Nat.reduceEqDiff, or_false, not_false_eq_true, forall_eq_or_imp, forall_eq, or_self, Nat.reduceLT, Nat.reduceLeDiff, and_self, List.forall_mem_cons, List.not_mem_nil, false_implies, implies_true, and_true, true_and, vcOAb26]) (by simp only [List.length_cons, List.length_nil, List.map_cons, List.map_nil, List.nodup_cons, List.nodup_nil, List.mem_cons, Nat.reduceAdd, Nat.reduceEqDiff, or_false, not_false_eq_true, forall_eq_or_imp, forall_eq, or_self, Nat.reduceLT, Nat.reduceLeDiff, and_self, List.forall_mem_cons, List.not_mem_nil, false_implies, implies_true, and_true, true_and, vcOAb26]) (by simp only [List.length_cons, List.length_nil, List.map_cons, List.map_nil, List.nodup_cons, List.nodup_nil, List.mem_cons, Nat.reduceAdd, Nat.reduceEqDiff, or_false, not_false_eq_true, forall_eq_or_imp, forall_eq, or_self, Nat.reduceLT, Nat.reduceLeDiff, and_self, List.forall_mem_cons, List.not_mem_nil, false_implies, implies_true, and_true, true_and, vcOAb26]) (by simp only [List.length_cons, List.length_nil, List.map_cons, List.map_nil, List.nodup_cons, List.nodup_nil, List.mem_cons, Nat.reduceAdd, Nat.reduceEqDiff, or_false, not_false_eq_true, forall_eq_or_imp, forall_eq, or_self, Nat.reduceLT, Nat.reduceLeDiff, and_self, List.forall_mem_cons, List.not_mem_nil, false_implies, implies_true, and_true, true_and, vcOAb26]) rfl fun w0 β0 => ?_; simp only [List.length_cons, List.length_nil, Tryd.ntmps46, Nat.reduceAdd, Nat.reduceSub, List.replicate_succ, List.replicate_zero, List.cons_append, List.nil_append])
  (repeat' ((first | with_reducible (first | apply XQ_slice | apply XQ_arrAt | apply XQ_cons | apply XQ_consG | apply XQ_nil | apply XR_copy | apply XR_slice | apply XR_arrAt | apply XR_cons | apply XR_consG | apply XR_nil | apply cF_pure (by assumption) | apply cV_pure (by assumption) | apply cF_own (by assumption) | apply cV_own (by assumption)) | (with_reducible apply X_drawC (id := 2) 6; (next => (kernel_rfl)); (next => (kernel_rfl))) | (with_reducible apply X_drawC (id := 8) 11; (next => (kernel_rfl)); (next => (kernel_rfl))) | (with_reducible apply X_drawC (id := 9) 2; (next => (kernel_rfl)); (next => (kernel_rfl))) | (with_reducible apply X_drawC (id := 12) 7; (next => (kernel_rfl)); (next => (kernel_rfl))) | refine X_of _ ?_ | with_reducible (first | exact ⟨_, rfl⟩ | refine And.intro ?_ ?_ | intro _)) <;> try simp -implicitDefEqProofs (maxSteps := 1000000) (disch := first | exact dz0 | fail) only [vcR, vcT, Int.reduceBEq, Int.reduceBNe, Int.reduceEq, Int.reduceNe, Ab.part, Nat.reduceAdd, Nat.reduceMul, Nat.reduceLeDiff, Nat.reduceEqDiff, Nat.reduceBEq, Nat.reduceBNe, reduceCtorEq, ↓reduceIte, implies_true, forall_const, Int.reduceNeg, Int.reduceToNat, Int.reduceLT, Int.reduceLE, Int.reduceAdd, Int.reduceSub, Int.reduceMul, Int.reducePow, Nat.reducePow, true_or, Option.isNone_some, Option.isNone_none, vcXAb26, Tryd.f46, List.toList_toArray, arr4_zero, nat4_set1, nat4_setL, nat4_set0]))
  refine X_loop (ι := Nat) (fun k => k ≤ 4) (fun k => 4 - k) [9, 19, 20, 21, 22, 23, 24, 25, 26, 27, 28, 29, 30, 31, 32, 33, 34, 35, 36, 37, 38, 39, 40, 41]
    (fun k => [(19, .s (.v (.int .i64 (k : Nat))))])
    (fun k => [(4, arr 6 (wd (tm m a c k)))]) 0 (shape_of fun i => ?_) (by decide) ?_ ?_
  · simp only [List.length_cons, List.length_nil, List.map_cons, List.map_nil, List.nodup_cons, List.nodup_nil, List.mem_cons, Nat.reduceAdd, Nat.reduceEqDiff, or_false, not_false_eq_true, forall_eq_or_imp, forall_eq, or_self, Nat.reduceLT, Nat.reduceLeDiff, and_self, List.forall_mem_cons, List.not_mem_nil, false_implies, implies_true, and_true, true_and, vcOAb26]
  · simp -implicitDefEqProofs (maxSteps := 1000000) (disch := first | exact dz0 | fail) only [vcR, vcT, Int.reduceBEq, Int.reduceBNe, Int.reduceEq, Int.reduceNe, Ab.part, Nat.reduceAdd, Nat.reduceMul, Nat.reduceLeDiff, Nat.reduceEqDiff, Nat.reduceBEq, Nat.reduceBNe, reduceCtorEq, ↓reduceIte, implies_true, forall_const, Int.reduceNeg, Int.reduceToNat, Int.reduceLT, Int.reduceLE, Int.reduceAdd, Int.reduceSub, Int.reduceMul, Int.reducePow, Nat.reducePow, true_or, Option.isNone_some, Option.isNone_none, vcXAb26, Tryd.f46, List.toList_toArray, again_eq]
    exact ⟨_, arr_congr fun i _ => (wd_zero i).symm, rfl⟩
  · intro k us hk
    (repeat (refine X_of _ ?_; simp -implicitDefEqProofs (maxSteps := 1000000) (disch := first | exact dz0 | fail) only [vcR, vcT, Int.reduceBEq, Int.reduceBNe, Int.reduceEq, Int.reduceNe, Ab.part, Nat.reduceAdd, Nat.reduceMul, Nat.reduceLeDiff, Nat.reduceEqDiff, Nat.reduceBEq, Nat.reduceBNe, reduceCtorEq, ↓reduceIte, implies_true, forall_const, Int.reduceNeg, Int.reduceToNat, Int.reduceLT, Int.reduceLE, Int.reduceAdd, Int.reduceSub, Int.reduceMul, Int.reducePow, Nat.reducePow, true_or, Option.isNone_some, Option.isNone_none, vcXAb26, Tryd.f46, List.toList_toArray]))
    refine ⟨fun h => ?_, fun h => ?_⟩
    · have g3 := h3 k
      have g4 := h4 k
      have g5 := h5 k
      have g6 := h6 k
      have g7 := tu_wd m (tm m a c k + wd a k * c)
      obtain ⟨T, hT⟩ : ∃ T, tm m a c k = T := ⟨_, rfl⟩
      rw [hT] at g3 g4 g5 g6 g7
      rw [hT]
      obtain ⟨X, hX⟩ : ∃ X, T + wd a k * c = X := ⟨_, rfl⟩
      rw [hX] at g3 g4 g5 g6 g7
      obtain ⟨u, hu⟩ : ∃ u, tu m X = u := ⟨_, rfl⟩
      rw [hu] at g4 g5 g6 g7
      obtain ⟨Z, hZ⟩ : ∃ Z, X + u * m = Z := ⟨_, rfl⟩
      rw [hZ] at g4 g5 g6
      rw [g6] at g5
      clear h3 h4 h5 h6 h7 hX hu hZ g6 hT hmi hc ha h1 h2 hr
      (repeat' ((first | with_reducible (first | apply XQ_slice | apply XQ_arrAt | apply XQ_cons | apply XQ_consG | apply XQ_nil | apply XR_copy | apply XR_slice | apply XR_arrAt | apply XR_cons | apply XR_consG | apply XR_nil | apply cF_pure (by assumption) | apply cV_pure (by assumption) | apply cF_own (by assumption) | apply cV_own (by assumption)) | (with_reducible apply X_drawC (id := 2) 6; (next => (kernel_rfl)); (next => (kernel_rfl))) | (with_reducible apply X_drawC (id := 8) 11; (next => (kernel_rfl)); (next => (kernel_rfl))) | (with_reducible apply X_drawC (id := 9) 2; (next => (kernel_rfl)); (next => (kernel_rfl))) | (with_reducible apply X_drawC (id := 12) 7; (next => (kernel_rfl)); (next => (kernel_rfl))) | refine X_of _ ?_ | with_reducible (first | exact ⟨_, rfl⟩ | refine And.intro ?_ ?_ | intro _)) <;> try simp -implicitDefEqProofs (maxSteps := 1000000) (disch := first | exact dz0 | fail) only [vcR, vcT, Int.reduceBEq, Int.reduceBNe, Int.reduceEq, Int.reduceNe, Ab.part, Nat.reduceAdd, Nat.reduceMul, Nat.reduceLeDiff, Nat.reduceEqDiff, Nat.reduceBEq, Nat.reduceBNe, reduceCtorEq, ↓reduceIte, implies_true, forall_const, Int.reduceNeg, Int.reduceToNat, Int.reduceLT, Int.reduceLE, Int.reduceAdd, Int.reduceSub, Int.reduceMul, Int.reducePow, Nat.reducePow, true_or, Option.isNone_some, Option.isNone_none, vcXAb26, Tryd.f46, List.toList_toArray, arr4_zero, nat4_set1, nat4_setL, nat4_set0, nat4_get,w64m,g7,g5]))
      refine xcopy_some rfl rfl ⟨⟨by kernel_rfl, by simp only [arr_length]; decide, by simp only [arr_length]; decide, part6_one _⟩, ?_⟩
      simp -implicitDefEqProofs (maxSteps := 1000000) (disch := first | exact dz0 | fail) only [vcR, vcT, Int.reduceBEq, Int.reduceBNe, Int.reduceEq, Int.reduceNe, Ab.part, Nat.reduceAdd, Nat.reduceMul, Nat.reduceLeDiff, Nat.reduceEqDiff, Nat.reduceBEq, Nat.reduceBNe, reduceCtorEq, ↓reduceIte, implies_true, forall_const, Int.reduceNeg, Int.reduceToNat, Int.reduceLT, Int.reduceLE, Int.reduceAdd, Int.reduceSub, Int.reduceMul, Int.reducePow, Nat.reducePow, true_or, Option.isNone_some, Option.isNone_none, vcXAb26, Tryd.f46, List.toList_toArray]
      (repeat' ((first | with_reducible (first | apply XQ_slice | apply XQ_arrAt | apply XQ_cons | apply XQ_consG | apply XQ_nil | apply XR_copy | apply XR_slice | apply XR_arrAt | apply XR_cons | apply XR_consG | apply XR_nil | apply cF_pure (by assumption) | apply cV_pure (by assumption) | apply cF_own (by assumption) | apply cV_own (by assumption)) | (with_reducible apply X_drawC (id := 2) 6; (next => (kernel_rfl)); (next => (kernel_rfl))) | (with_reducible apply X_drawC (id := 8) 11; (next => (kernel_rfl)); (next => (kernel_rfl))) | (with_reducible apply X_drawC (id := 9) 2; (next => (kernel_rfl)); (next => (kernel_rfl))) | (with_reducible apply X_drawC (id := 12) 7; (next => (kernel_rfl)); (next => (kernel_rfl))) | refine X_of _ ?_ | with_reducible (first | exact ⟨_, rfl⟩ | refine And.intro ?_ ?_ | intro _)) <;> try simp -implicitDefEqProofs (maxSteps := 1000000) (disch := first | exact dz0 | fail) only [vcR, vcT, Int.reduceBEq, Int.reduceBNe, Int.reduceEq, Int.reduceNe, Ab.part, Nat.reduceAdd, Nat.reduceMul, Nat.reduceLeDiff, Nat.reduceEqDiff, Nat.reduceBEq, Nat.reduceBNe, reduceCtorEq, ↓reduceIte, implies_true, forall_const, Int.reduceNeg, Int.reduceToNat, Int.reduceLT, Int.reduceLE, Int.reduceAdd, Int.reduceSub, Int.reduceMul, Int.reducePow, Nat.reducePow, true_or, Option.isNone_some, Option.isNone_none, vcXAb26, Tryd.f46, List.toList_toArray, arr4_zero, nat4_set1, nat4_setL, nat4_set0, len6,g5]))
      refine ⟨k + 1, by omega, ?_⟩
      simp -implicitDefEqProofs (maxSteps := 1000000) (disch := first | exact dz0 | fail) only [vcR, vcT, Int.reduceBEq, Int.reduceBNe, Int.reduceEq, Int.reduceNe, Ab.part, Nat.reduceAdd, Nat.reduceMul, Nat.reduceLeDiff, Nat.reduceEqDiff, Nat.reduceBEq, Nat.reduceBNe, reduceCtorEq, ↓reduceIte, implies_true, forall_const, Int.reduceNeg, Int.reduceToNat, Int.reduceLT, Int.reduceLE, Int.reduceAdd, Int.reduceSub, Int.reduceMul, Int.reducePow, Nat.reducePow, true_or, Option.isNone_some, Option.isNone_none, vcXAb26, Tryd.f46, List.toList_toArray, again_eq]
      exact ⟨_, rfl⟩
    · have hk4 : k = 4 := by omega
      subst hk4
      clear h3 h4 h5 h6 h1 h2 hr hmi ha hc
      (repeat' ((first | with_reducible (first | apply XQ_slice | apply XQ_arrAt | apply XQ_cons | apply XQ_consG | apply XQ_nil | apply XR_copy | apply XR_slice | apply XR_arrAt | apply XR_cons | apply XR_consG | apply XR_nil | apply cF_pure (by assumption) | apply cV_pure (by assumption) | apply cF_own (by assumption) | apply cV_own (by assumption) | apply cF_own (row_o _ _ _ _ rfl bd0 bd0 bd0) | apply cV_own (row_o _ _ _ _ rfl bd0 bd0 bd0)) | (with_reducible apply X_drawC (id := 2) 6; (next => (kernel_rfl)); (next => (kernel_rfl))) | (with_reducible apply X_drawC (id := 8) 11; (next => (kernel_rfl)); (next => (kernel_rfl))) | (with_reducible apply X_drawC (id := 9) 2; (next => (kernel_rfl)); (next => (kernel_rfl))) | (with_reducible apply X_drawC (id := 12) 7; (next => (kernel_rfl)); (next => (kernel_rfl))) | refine X_of _ ?_ | with_reducible (first | exact ⟨_, rfl⟩ | refine And.intro ?_ ?_ | intro _)) <;> try simp -implicitDefEqProofs (maxSteps := 1000000) (disch := first | exact dz0 | fail) only [vcR, vcT, Int.reduceBEq, Int.reduceBNe, Int.reduceEq, Int.reduceNe, Ab.part, Nat.reduceAdd, Nat.reduceMul, Nat.reduceLeDiff, Nat.reduceEqDiff, Nat.reduceBEq, Nat.reduceBNe, reduceCtorEq, ↓reduceIte, implies_true, forall_const, Int.reduceNeg, Int.reduceToNat, Int.reduceLT, Int.reduceLE, Int.reduceAdd, Int.reduceSub, Int.reduceMul, Int.reducePow, Nat.reducePow, true_or, Option.isNone_some, Option.isNone_none, vcXAb26, Tryd.f46, List.toList_toArray, arr4_zero, nat4_set1, nat4_setL, nat4_set0, arr_take4,arr_get4]))

end Go.Proofs.YthniflakjkbpiaaDoor
