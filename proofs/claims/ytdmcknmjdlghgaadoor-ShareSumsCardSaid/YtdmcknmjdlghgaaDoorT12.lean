/-
  mont.New; the images; every method, told of any Mod.
  mont.New; the images; every method, told of any Mod.
  Package mont's statements: their code.
  group: Member, Base, Params, Q.
  group: products of powers.
  group: Multi.
-/
import Derived.Test.YtdmcknmjdlghgaaDoorT01
import Derived.Test.YtdmcknmjdlghgaaDoorT02
import Derived.Test.YtdmcknmjdlghgaaDoorT03
import Derived.Test.YtdmcknmjdlghgaaDoorT04
import Derived.Test.YtdmcknmjdlghgaaDoorT05
import Derived.Test.YtdmcknmjdlghgaaDoorT06
import Derived.Test.YtdmcknmjdlghgaaDoorT11
namespace Go.Proofs.YtdmcknmjdlghgaaDoor
open Go Go.Ab
set_option linter.unusedSimpArgs false
set_option linter.unusedVariables false
set_option linter.defProp false
set_option maxHeartbeats 20000000
set_option maxRecDepth 100000
theorem to_o (m : Nat) (b : Bool) (x : Nat) (hG : OddM m) (hx : x < 2 ^ 256) :
    OwnC Tryd.prog 62 [.s (.p 0 0), .agg (nat4 x)] [⟨108, modS m b⟩] [⟨108, modc m 1 0 (mi m) (sqm m)⟩] (.agg (nat4 (img m x))) := by
  have h1 := ready_o m b hG
  have h2 := mul_o m true x (sqm m) hG hx hG.sq_lt
  rw [modS_true, mo_sq hG] at h2
  clear hG hx
  (refine own_of Tryd.func62 rfl (by simp only [List.length_cons, List.length_nil, List.map_cons, List.map_nil, List.nodup_cons, List.nodup_nil, List.mem_cons, Nat.reduceAdd, Nat.reduceEqDiff, or_false, not_false_eq_true, forall_eq_or_imp, forall_eq, or_self, Nat.reduceLT, Nat.reduceLeDiff, and_self, List.forall_mem_cons, List.not_mem_nil, false_implies, implies_true, and_true, true_and, vcOAb26]) (by simp only [List.length_cons, List.length_nil, List.map_cons, List.map_nil, List.nodup_cons, List.nodup_nil, List.mem_cons, Nat.reduceAdd, Nat.reduceEqDiff, or_false, not_false_eq_true, forall_eq_or_imp, forall_eq, or_self, Nat.reduceLT, Nat.reduceLeDiff, and_self, List.forall_mem_cons, List.not_mem_nil, false_implies, implies_true, and_true, true_and, vcOAb26]) (by simp only [List.length_cons, List.length_nil, List.map_cons, List.map_nil, List.nodup_cons, List.nodup_nil, List.mem_cons, Nat.reduceAdd, Nat.reduceEqDiff, or_false, not_false_eq_true, forall_eq_or_imp, forall_eq, or_self, Nat.reduceLT, Nat.reduceLeDiff, and_self, List.forall_mem_cons, List.not_mem_nil, false_implies, implies_true, and_true, true_and, vcOAb26]) (by simp only [List.length_cons, List.length_nil, List.map_cons, List.map_nil, List.nodup_cons, List.nodup_nil, List.mem_cons, Nat.reduceAdd, Nat.reduceEqDiff, or_false, not_false_eq_true, forall_eq_or_imp, forall_eq, or_self, Nat.reduceLT, Nat.reduceLeDiff, and_self, List.forall_mem_cons, List.not_mem_nil, false_implies, implies_true, and_true, true_and, vcOAb26]) rfl fun w0 β0 => ?_; simp only [List.length_cons, List.length_nil, Tryd.ntmps62, Nat.reduceAdd, Nat.reduceSub, List.replicate_succ, List.replicate_zero, List.cons_append, List.nil_append])
  (repeat' ((first | with_reducible (first | apply XQ_cons | apply XQ_consG | apply XQ_nil | apply XR_cons | apply XR_consG | apply XR_nil | apply cF_pure (by assumption) | apply cV_pure (by assumption) | apply cF_ev (by assumption) | apply cV_ev (by assumption) | apply cF_own (by assumption) | apply cV_own (by assumption) | apply cF_ev (mul_e _ _ _ _ bd0 bd0 bd0) | apply cV_ev (mul_e _ _ _ _ bd0 bd0 bd0)) | ((with_reducible apply cF_new (by assumption)); (first | rintro _ _ ⟨rfl, rfl⟩ | rintro _ _ ⟨_, _, rfl, rfl⟩)) | (with_reducible apply X_drawC (id := 2) 7; (next => (kernel_rfl)); (next => (kernel_rfl))) | refine X_of _ ?_ | with_reducible (first | exact ⟨_, rfl⟩ | refine And.intro ?_ ?_ | intro _)) <;> try simp -implicitDefEqProofs (maxSteps := 1000000) (disch := first | exact dz0 | fail) only [vcR, vcT, simprocAttr, Ab.part, implies_true, forall_const, true_or, Option.isNone_some, Option.isNone_none, vcXAb26, Tryd.f62, List.toList_toArray, arr4_zero, nat4_set1, nat4_setL, nat4_set0]))
theorem from_o (m : Nat) (b : Bool) (x : Nat) (hG : OddM m) (hx : x < 2 ^ 256) :
    OwnC Tryd.prog 77 [.s (.p 0 0), .agg (nat4 x)] [⟨108, modS m b⟩] [⟨108, modc m 1 0 (mi m) (sqm m)⟩] (.agg (nat4 (mo m x))) := by
  have h2 := mul_o m b x 1 hG hx (by decide)
  rw [Nat.mul_one] at h2
  clear hG hx
  (refine own_of Tryd.func77 rfl (by simp only [List.length_cons, List.length_nil, List.map_cons, List.map_nil, List.nodup_cons, List.nodup_nil, List.mem_cons, Nat.reduceAdd, Nat.reduceEqDiff, or_false, not_false_eq_true, forall_eq_or_imp, forall_eq, or_self, Nat.reduceLT, Nat.reduceLeDiff, and_self, List.forall_mem_cons, List.not_mem_nil, false_implies, implies_true, and_true, true_and, vcOAb26]) (by simp only [List.length_cons, List.length_nil, List.map_cons, List.map_nil, List.nodup_cons, List.nodup_nil, List.mem_cons, Nat.reduceAdd, Nat.reduceEqDiff, or_false, not_false_eq_true, forall_eq_or_imp, forall_eq, or_self, Nat.reduceLT, Nat.reduceLeDiff, and_self, List.forall_mem_cons, List.not_mem_nil, false_implies, implies_true, and_true, true_and, vcOAb26]) (by simp only [List.length_cons, List.length_nil, List.map_cons, List.map_nil, List.nodup_cons, List.nodup_nil, List.mem_cons, Nat.reduceAdd, Nat.reduceEqDiff, or_false, not_false_eq_true, forall_eq_or_imp, forall_eq, or_self, Nat.reduceLT, Nat.reduceLeDiff, and_self, List.forall_mem_cons, List.not_mem_nil, false_implies, implies_true, and_true, true_and, vcOAb26]) (by simp only [List.length_cons, List.length_nil, List.map_cons, List.map_nil, List.nodup_cons, List.nodup_nil, List.mem_cons, Nat.reduceAdd, Nat.reduceEqDiff, or_false, not_false_eq_true, forall_eq_or_imp, forall_eq, or_self, Nat.reduceLT, Nat.reduceLeDiff, and_self, List.forall_mem_cons, List.not_mem_nil, false_implies, implies_true, and_true, true_and, vcOAb26]) rfl fun w0 β0 => ?_; simp only [List.length_cons, List.length_nil, Tryd.ntmps77, Nat.reduceAdd, Nat.reduceSub, List.replicate_succ, List.replicate_zero, List.cons_append, List.nil_append])
  (repeat' ((first | with_reducible (first | apply cF_pure (by assumption) | apply cF_ev (by assumption) | apply cF_own (by assumption) | apply cF_ev (mul_e _ _ _ _ bd0 bd0 bd0)) | ((with_reducible apply cF_new (by assumption)); (first | rintro _ _ ⟨rfl, rfl⟩ | rintro _ _ ⟨_, _, rfl, rfl⟩)) | refine X_of _ ?_ | with_reducible (first | exact ⟨_, rfl⟩ | refine And.intro ?_ ?_ | intro _)) <;> try simp -implicitDefEqProofs (maxSteps := 1000000) (disch := first | exact dz0 | fail) only [vcR, vcT, simprocAttr, Ab.part, implies_true, forall_const, true_or, Option.isNone_some, Option.isNone_none, vcXAb26, Tryd.f77, List.toList_toArray, arr4_zero, nat4_set1, nat4_setL, nat4_set0]))
theorem wd_low_odd (m : Nat) : wd m 0 % 2 = m % 2 := by simp only [wd]; omega
theorem new_bad (m : Nat) (hm : m < 2 ^ 256) (h : ¬ OddM m) : PureC Tryd.prog 42 [.agg (nat4 m)] (.tup [.s (.v (.pointer none)), .s (.v (.int .i64 (chk m)))]) := by
  have hw := wd_low_odd m
  have e0 : litsEq (lits 4 (wd m)) (lits 4 (wd 0)) = decide (m = 0) := litsEq_nat4 hm (by decide)
  have e1 : litsEq (lits 4 (wd m)) (lits 4 (wd 1)) = decide (m = 1) := litsEq_nat4 hm (by decide)
  have hb : bits .and .u64 ((wd m 0 : Nat) : Int) 1 = ((wd m 0 % 2 : Nat) : Int) := andOne _ (wd_lt m 0)
  obtain ⟨r, hr⟩ : ∃ r, chk m = r := ⟨_, rfl⟩
  have hcase : (m = 0 ∧ r = 11) ∨ (m ≠ 0 ∧ m = 1 ∧ r = 11) ∨ (m ≠ 0 ∧ m ≠ 1 ∧ m % 2 = 0 ∧ r = 12) := by
    by_cases h0 : m = 0
    · simp [chk, h0] at hr; simp [h0, hr]
    · by_cases h1 : m = 1
      · simp [chk, h1] at hr; simp [h1, hr]
      · by_cases h2 : m % 2 = 0
        · simp [chk, h0, h1, h2] at hr; simp [h0, h1, h2, hr]
        · exact absurd ⟨hm, by omega, by omega⟩ h
  rw [hr]
  clear hr hm h
  refine pureC_of Tryd.func42 rfl (by simp only [List.length_cons, List.length_nil, List.map_cons, List.map_nil, List.nodup_cons, List.nodup_nil, List.mem_cons, Nat.reduceAdd, Nat.reduceEqDiff, or_false, not_false_eq_true, forall_eq_or_imp, forall_eq, or_self, Nat.reduceLT, Nat.reduceLeDiff, and_self, List.forall_mem_cons, List.not_mem_nil, false_implies, implies_true, and_true, true_and, vcOAb26]) (by simp only [List.length_cons, List.length_nil, List.map_cons, List.map_nil, List.nodup_cons, List.nodup_nil, List.mem_cons, Nat.reduceAdd, Nat.reduceEqDiff, or_false, not_false_eq_true, forall_eq_or_imp, forall_eq, or_self, Nat.reduceLT, Nat.reduceLeDiff, and_self, List.forall_mem_cons, List.not_mem_nil, false_implies, implies_true, and_true, true_and, vcOAb26]) fun w => ?_
  simp only [List.length_cons, List.length_nil, Tryd.ntmps42, Nat.reduceAdd, Nat.reduceSub, List.replicate_succ, List.replicate_zero, List.cons_append, List.nil_append]
  rcases hcase with ⟨rfl, rfl⟩ | ⟨h0, h, rfl⟩ | ⟨h0, h1, h, rfl⟩
  · simp only [decide_true] at e0
    (repeat' ((first | with_reducible (first | apply XR_cons | apply XR_consG | apply XR_nil | apply cF_pure (by assumption) | apply cF_ev (by assumption) | apply cF_own (by assumption)) | ((with_reducible apply cF_new (by assumption)); (first | rintro _ _ ⟨rfl, rfl⟩ | rintro _ _ ⟨_, _, rfl, rfl⟩)) | with_reducible (first | apply gRS (by with_unfolding_all rfl) | apply gR (by with_unfolding_all rfl) | apply gS (by with_unfolding_all rfl) | fail) | refine X_of _ ?_ | with_reducible (first | exact ⟨_, rfl⟩ | refine And.intro ?_ ?_ | intro _)) <;> try simp -implicitDefEqProofs (maxSteps := 1000000) (disch := first | exact dz0 | fail) only [vcR, vcT, simprocAttr, Ab.part, implies_true, forall_const, true_or, Option.isNone_some, Option.isNone_none, vcXAb26, Tryd.f42, List.toList_toArray, arr4_zero, nat4_set1, nat4_setL, nat4_set0, e0]))
  · simp only [h0, decide_false] at e0
    simp only [h, decide_true] at e1
    subst h
    (repeat' ((first | with_reducible (first | apply XR_cons | apply XR_consG | apply XR_nil | apply cF_pure (by assumption) | apply cF_ev (by assumption) | apply cF_own (by assumption)) | ((with_reducible apply cF_new (by assumption)); (first | rintro _ _ ⟨rfl, rfl⟩ | rintro _ _ ⟨_, _, rfl, rfl⟩)) | with_reducible (first | apply gRS (by with_unfolding_all rfl) | apply gR (by with_unfolding_all rfl) | apply gS (by with_unfolding_all rfl) | fail) | refine X_of _ ?_ | with_reducible (first | exact ⟨_, rfl⟩ | refine And.intro ?_ ?_ | intro _)) <;> try simp -implicitDefEqProofs (maxSteps := 1000000) (disch := first | exact dz0 | fail) only [vcR, vcT, simprocAttr, Ab.part, implies_true, forall_const, true_or, Option.isNone_some, Option.isNone_none, vcXAb26, Tryd.f42, List.toList_toArray, arr4_zero, nat4_set1, nat4_setL, nat4_set0, e0,e1]))
  · simp only [h0, decide_false] at e0
    simp only [h1, decide_false] at e1
    rw [h] at hw
    have h2 : ((wd m 0 % 2 : Nat) : Int) = 0 := by omega
    (repeat' ((first | with_reducible (first | apply XR_cons | apply XR_consG | apply XR_nil | apply cF_pure (by assumption) | apply cF_ev (by assumption) | apply cF_own (by assumption)) | ((with_reducible apply cF_new (by assumption)); (first | rintro _ _ ⟨rfl, rfl⟩ | rintro _ _ ⟨_, _, rfl, rfl⟩)) | with_reducible (first | apply gRS (by with_unfolding_all rfl) | apply gR (by with_unfolding_all rfl) | apply gS (by with_unfolding_all rfl) | fail) | refine X_of _ ?_ | with_reducible (first | exact ⟨_, rfl⟩ | refine And.intro ?_ ?_ | intro _)) <;> try simp -implicitDefEqProofs (maxSteps := 1000000) (disch := first | exact dz0 | fail) only [vcR, vcT, simprocAttr, Ab.part, implies_true, forall_const, true_or, Option.isNone_some, Option.isNone_none, vcXAb26, Tryd.f42, List.toList_toArray, arr4_zero, nat4_set1, nat4_setL, nat4_set0, e0,e1,hb,h2]))
theorem new_good (m : Nat) (hG : OddM m) : NewC Tryd.prog 42 [.agg (nat4 m)] (fun v H => v = .tup [.s (.p 0 0), .s (.v (.int .i64 0))] ∧ H = [⟨108, modS m false⟩]) := by
  have hw := wd_low_odd m
  have h1 := hG.odd
  have h0 := hG.gt
  have e0 : litsEq (lits 4 (wd m)) (lits 4 (wd 0)) = decide (m = 0) := litsEq_nat4 hG.lt (by decide)
  have e1 : litsEq (lits 4 (wd m)) (lits 4 (wd 1)) = decide (m = 1) := litsEq_nat4 hG.lt (by decide)
  have hb : bits .and .u64 ((wd m 0 : Nat) : Int) 1 = ((wd m 0 % 2 : Nat) : Int) := andOne _ (wd_lt m 0)
  simp only [show m ≠ 0 by omega, decide_false] at e0
  simp only [show m ≠ 1 by omega, decide_false] at e1
  rw [h1] at hw
  have h2 : ((wd m 0 % 2 : Nat) : Int) = 1 := by omega
  clear hG h0 h1
  (refine newC_of Tryd.func42 rfl (by simp only [List.length_cons, List.length_nil, List.map_cons, List.map_nil, List.nodup_cons, List.nodup_nil, List.mem_cons, Nat.reduceAdd, Nat.reduceEqDiff, or_false, not_false_eq_true, forall_eq_or_imp, forall_eq, or_self, Nat.reduceLT, Nat.reduceLeDiff, and_self, List.forall_mem_cons, List.not_mem_nil, false_implies, implies_true, and_true, true_and, vcOAb26]) fun w => ?_; simp only [List.length_cons, List.length_nil, Tryd.ntmps42, Nat.reduceAdd, Nat.reduceSub, List.replicate_succ, List.replicate_zero, List.cons_append, List.nil_append])
  (repeat' ((first | with_reducible (first | apply XR_cons | apply XR_consG | apply XR_nil | apply cF_pure (by assumption) | apply cF_ev (by assumption) | apply cF_own (by assumption)) | ((with_reducible apply cF_new (by assumption)); (first | rintro _ _ ⟨rfl, rfl⟩ | rintro _ _ ⟨_, _, rfl, rfl⟩)) | with_reducible (first | apply gRS (by with_unfolding_all rfl) | apply gR (by with_unfolding_all rfl) | apply gS (by with_unfolding_all rfl) | fail) | refine X_of _ ?_ | with_reducible (first | exact ⟨_, rfl⟩ | refine And.intro ?_ ?_ | intro _)) <;> try simp -implicitDefEqProofs (maxSteps := 1000000) (disch := first | exact dz0 | fail) only [vcR, vcT, simprocAttr, Ab.part, implies_true, forall_const, true_or, Option.isNone_some, Option.isNone_none, vcXAb26, Tryd.f42, List.toList_toArray, arr4_zero, nat4_set1, nat4_setL, nat4_set0, e0,e1,hb,h2]))
  exact ⟨[1], _, _, ⟨rfl, rfl⟩, by decide, rfl, by simp only [List.length_cons, List.length_nil, List.map_cons, List.map_nil, List.nodup_cons, List.nodup_nil, List.mem_cons, Nat.reduceAdd, Nat.reduceEqDiff, or_false, not_false_eq_true, forall_eq_or_imp, forall_eq, or_self, Nat.reduceLT, Nat.reduceLeDiff, and_self, List.forall_mem_cons, List.not_mem_nil, false_implies, implies_true, and_true, true_and, vcOAb26], ⟨rfl, trivial⟩, by simp only [List.mem_singleton, forall_eq]; exact modS_ok⟩
/-! Tryd# Of any Mod -/
theorem M_e (k m : Nat) : EvC (modEvo 108) Tryd.prog 23 [.s (.v (.pointer (some ⟨k, 0, none⟩)))] (isMod 108 k m) (.agg (nat4 m)) :=
  OwnC.mod (args := []) (by simp only [List.length_cons, List.length_nil, List.map_cons, List.map_nil, List.nodup_cons, List.nodup_nil, List.mem_cons, Nat.reduceAdd, Nat.reduceEqDiff, or_false, not_false_eq_true, forall_eq_or_imp, forall_eq, or_self, Nat.reduceLT, Nat.reduceLeDiff, and_self, List.forall_mem_cons, List.not_mem_nil, false_implies, implies_true, and_true, true_and, vcOAb26]) fun hG b => ⟨b, by
    obtain ⟨d, i, s, h⟩ := modS_eq m b
    rw [h]
    exact M_o m d 0 i s⟩
theorem plus_e (k m x y : Nat) (hG : OddM m) (hx : x < 2 ^ 256) (hy : y < 2 ^ 256) : EvC (modEvo 108) Tryd.prog 31 [.s (.v (.pointer (some ⟨k, 0, none⟩))), .agg (nat4 x), .agg (nat4 y)] (isMod 108 k m) (.agg (nat4 ((x + y) % m))) :=
  OwnC.mod (by simp only [List.length_cons, List.length_nil, List.map_cons, List.map_nil, List.nodup_cons, List.nodup_nil, List.mem_cons, Nat.reduceAdd, Nat.reduceEqDiff, or_false, not_false_eq_true, forall_eq_or_imp, forall_eq, or_self, Nat.reduceLT, Nat.reduceLeDiff, and_self, List.forall_mem_cons, List.not_mem_nil, false_implies, implies_true, and_true, true_and, vcOAb26]) fun hG b => ⟨b, by
    obtain ⟨d, i, s, h⟩ := modS_eq m b
    rw [h]
    exact plus_o m d 0 i s x y _ hG.lt hG.pos hx hy rfl⟩
theorem minus_e (k m x y : Nat) (hG : OddM m) (hx : x < 2 ^ 256) (hy : y < 2 ^ 256) : EvC (modEvo 108) Tryd.prog 102 [.s (.v (.pointer (some ⟨k, 0, none⟩))), .agg (nat4 x), .agg (nat4 y)] (isMod 108 k m) (.agg (nat4 (msub m x y))) :=
  OwnC.mod (by simp only [List.length_cons, List.length_nil, List.map_cons, List.map_nil, List.nodup_cons, List.nodup_nil, List.mem_cons, Nat.reduceAdd, Nat.reduceEqDiff, or_false, not_false_eq_true, forall_eq_or_imp, forall_eq, or_self, Nat.reduceLT, Nat.reduceLeDiff, and_self, List.forall_mem_cons, List.not_mem_nil, false_implies, implies_true, and_true, true_and, vcOAb26]) fun hG b => ⟨b, by
    obtain ⟨d, i, s, h⟩ := modS_eq m b
    rw [h]
    exact minus_o m d 0 i s x y _ hG.lt hG.pos hx hy rfl⟩
theorem to_e (k m x : Nat) (hG : OddM m) (hx : x < 2 ^ 256) : EvC (modEvo 108) Tryd.prog 62 [.s (.v (.pointer (some ⟨k, 0, none⟩))), .agg (nat4 x)] (isMod 108 k m) (.agg (nat4 (img m x))) :=
  OwnC.mod (by simp only [List.length_cons, List.length_nil, List.map_cons, List.map_nil, List.nodup_cons, List.nodup_nil, List.mem_cons, Nat.reduceAdd, Nat.reduceEqDiff, or_false, not_false_eq_true, forall_eq_or_imp, forall_eq, or_self, Nat.reduceLT, Nat.reduceLeDiff, and_self, List.forall_mem_cons, List.not_mem_nil, false_implies, implies_true, and_true, true_and, vcOAb26]) fun _ b => ⟨true, to_o m b x hG hx⟩
theorem from_e (k m x : Nat) (hG : OddM m) (hx : x < 2 ^ 256) : EvC (modEvo 108) Tryd.prog 77 [.s (.v (.pointer (some ⟨k, 0, none⟩))), .agg (nat4 x)] (isMod 108 k m) (.agg (nat4 (mo m x))) :=
  OwnC.mod (by simp only [List.length_cons, List.length_nil, List.map_cons, List.map_nil, List.nodup_cons, List.nodup_nil, List.mem_cons, Nat.reduceAdd, Nat.reduceEqDiff, or_false, not_false_eq_true, forall_eq_or_imp, forall_eq, or_self, Nat.reduceLT, Nat.reduceLeDiff, and_self, List.forall_mem_cons, List.not_mem_nil, false_implies, implies_true, and_true, true_and, vcOAb26]) fun _ b => ⟨true, from_o m b x hG hx⟩
theorem mul_e (k m x y : Nat) (hG : OddM m) (hx : x < 2 ^ 256) (hy : y < 2 ^ 256) : EvC (modEvo 108) Tryd.prog 61 [.s (.v (.pointer (some ⟨k, 0, none⟩))), .agg (nat4 x), .agg (nat4 y)] (isMod 108 k m) (.agg (nat4 (mo m (x * y)))) :=
  OwnC.mod (by simp only [List.length_cons, List.length_nil, List.map_cons, List.map_nil, List.nodup_cons, List.nodup_nil, List.mem_cons, Nat.reduceAdd, Nat.reduceEqDiff, or_false, not_false_eq_true, forall_eq_or_imp, forall_eq, or_self, Nat.reduceLT, Nat.reduceLeDiff, and_self, List.forall_mem_cons, List.not_mem_nil, false_implies, implies_true, and_true, true_and, vcOAb26]) fun _ b => ⟨true, mul_o m b x y hG hx hy⟩
theorem times_e (k m x y : Nat) (hG : OddM m) (hx : x < 2 ^ 256) (hy : y < 2 ^ 256) : EvC (modEvo 108) Tryd.prog 32 [.s (.v (.pointer (some ⟨k, 0, none⟩))), .agg (nat4 x), .agg (nat4 y)] (isMod 108 k m) (.agg (nat4 (x * y % m))) := by
  have h1 := to_e k m x hG hx
  have h2 := mul_e k m (img m x) y hG hG.img_lt hy
  rw [mo_times hG] at h2
  (refine evC_of Tryd.func32 rfl (by simp only [List.length_cons, List.length_nil, List.map_cons, List.map_nil, List.nodup_cons, List.nodup_nil, List.mem_cons, Nat.reduceAdd, Nat.reduceEqDiff, or_false, not_false_eq_true, forall_eq_or_imp, forall_eq, or_self, Nat.reduceLT, Nat.reduceLeDiff, and_self, List.forall_mem_cons, List.not_mem_nil, false_implies, implies_true, and_true, true_and, vcOAb26]) (by simp only [List.length_cons, List.length_nil, List.map_cons, List.map_nil, List.nodup_cons, List.nodup_nil, List.mem_cons, Nat.reduceAdd, Nat.reduceEqDiff, or_false, not_false_eq_true, forall_eq_or_imp, forall_eq, or_self, Nat.reduceLT, Nat.reduceLeDiff, and_self, List.forall_mem_cons, List.not_mem_nil, false_implies, implies_true, and_true, true_and, vcOAb26]) fun B w hpre => ?_; simp only [List.length_cons, List.length_nil, Tryd.ntmps32, Nat.reduceAdd, Nat.reduceSub, List.replicate_succ, List.replicate_zero, List.cons_append, List.nil_append])
  have hM : Kn (ctxE Tryd.prog (modEvo 108) w B) (isMod 108 k m) := Kn.entry (isMod_stays _ k m) hpre
  clear hpre hG hx hy
  (repeat' ((first | with_reducible (first | apply XQ_cons | apply XQ_consG | apply XQ_nil | apply XR_cons | apply XR_consG | apply XR_nil | apply cF_pure (by assumption) | apply cV_pure (by assumption) | apply cF_ev (by assumption) | apply cV_ev (by assumption) | apply cF_own (by assumption) | apply cV_own (by assumption) | apply cF_ev (mul_e _ _ _ _ bd0 bd0 bd0) | apply cV_ev (mul_e _ _ _ _ bd0 bd0 bd0) | apply cF_ev (to_e _ _ _ bd0 bd0) | apply cV_ev (to_e _ _ _ bd0 bd0)) | ((with_reducible apply cF_new (by assumption)); (first | rintro _ _ ⟨rfl, rfl⟩ | rintro _ _ ⟨_, _, rfl, rfl⟩)) | (with_reducible apply X_drawC (id := 1) 6; (next => (kernel_rfl)); (next => (kernel_rfl))) | refine X_of _ ?_ | with_reducible (first | exact ⟨_, rfl⟩ | refine And.intro ?_ ?_ | intro _)) <;> try simp -implicitDefEqProofs (maxSteps := 1000000) (disch := first | exact dz0 | fail) only [vcR, vcT, simprocAttr, Ab.part, implies_true, forall_const, true_or, Option.isNone_some, Option.isNone_none, vcXAb26, Tryd.f32, List.toList_toArray, arr4_zero, nat4_set1, nat4_setL, nat4_set0]))
  all_goals trace_state
def trM6bn44x1 : Tr := (.cons 6 (.cons 7 (.cons 8 (.cons 9 .nil .nil) .nil) .nil) (.cons 7 (.cons 6 (.cons 8 (.cons 9 .nil .nil) .nil) .nil) .nil))
theorem pow_e (k m a n : Nat) (hG : OddM m) (ha : a < 2 ^ 256) (hn : n < 2 ^ 256) : EvC (modEvo 108) Tryd.prog 44 [.s (.v (.pointer (some ⟨k, 0, none⟩))), .agg (nat4 a), .agg (nat4 n)] (isMod 108 k m) (.agg (nat4 (a ^ n % m))) := by
  have h1 := to_e k m 1 hG (by decide)
  have h2 := to_e k m a hG ha
  have hb : blen n ≤ 256 := blen_le n 256 hn
  have h3 := from_e k m (gimg m a n (blen n)) hG (gimg_lt hG a n _)
  rw [gimg_end hG] at h3
  rw [← gimg_zero m a n] at h1
  rw [← pimg_zero m a] at h2
  obtain ⟨r, hr⟩ : ∃ r, a ^ n % m = r := ⟨_, rfl⟩
  rw [hr] at h3
  rw [hr]
  clear hr
  (refine evC_of Tryd.func44 rfl (by simp only [List.length_cons, List.length_nil, List.map_cons, List.map_nil, List.nodup_cons, List.nodup_nil, List.mem_cons, Nat.reduceAdd, Nat.reduceEqDiff, or_false, not_false_eq_true, forall_eq_or_imp, forall_eq, or_self, Nat.reduceLT, Nat.reduceLeDiff, and_self, List.forall_mem_cons, List.not_mem_nil, false_implies, implies_true, and_true, true_and, vcOAb26]) (by simp only [List.length_cons, List.length_nil, List.map_cons, List.map_nil, List.nodup_cons, List.nodup_nil, List.mem_cons, Nat.reduceAdd, Nat.reduceEqDiff, or_false, not_false_eq_true, forall_eq_or_imp, forall_eq, or_self, Nat.reduceLT, Nat.reduceLeDiff, and_self, List.forall_mem_cons, List.not_mem_nil, false_implies, implies_true, and_true, true_and, vcOAb26]) fun B w hpre => ?_; simp only [List.length_cons, List.length_nil, Tryd.ntmps44, Nat.reduceAdd, Nat.reduceSub, List.replicate_succ, List.replicate_zero, List.cons_append, List.nil_append])
  have hM : Kn (ctxE Tryd.prog (modEvo 108) w B) (isMod 108 k m) := Kn.entry (isMod_stays _ k m) hpre
  clear hpre
  (repeat' ((first | with_reducible (first | apply XR_cons | apply XR_consG | apply XR_nil | apply XM_cons | apply XM_consG | apply XM_nil | apply cF_pure (by assumption) | apply cM_pure (by assumption) | apply cF_ev (by assumption) | apply cM_ev (by assumption) | apply cF_pure (bit_n _ _ bd0) | apply cM_pure (bit_n _ _ bd0) | apply cF_pure (len_c _ bd0) | apply cM_pure (len_c _ bd0) | apply cF_ev (from_e _ _ _ bd0 bd0) | apply cM_ev (from_e _ _ _ bd0 bd0) | apply cF_ev (mul_e _ _ _ _ bd0 bd0 bd0) | apply cM_ev (mul_e _ _ _ _ bd0 bd0 bd0) | apply cF_ev (to_e _ _ _ bd0 bd0) | apply cM_ev (to_e _ _ _ bd0 bd0)) | (with_reducible apply X_drawM (id := 1) 6 [] trM6bn44x1; (next => (kernel_rfl)); (next => (kernel_rfl))) | refine X_of _ ?_ | with_reducible (first | exact ⟨_, rfl⟩ | refine And.intro ?_ ?_ | intro _)) <;> try simp -implicitDefEqProofs (maxSteps := 1000000) (disch := first | exact dz0 | fail) only [vcR, vcT, simprocAttr, Ab.part, implies_true, forall_const, true_or, Option.isNone_some, Option.isNone_none, vcXAb26, Tryd.f44, List.toList_toArray, arr4_zero, nat4_set1, nat4_setL, nat4_set0, trM6bn44x1]))
  rotate_left
  (refine X_permL [0, 1, 2, 4, 3] rfl rfl (by decide) (by decide) (by simp only [List.length_cons, List.length_nil, List.map_cons, List.map_nil, List.nodup_cons, List.nodup_nil, List.mem_cons, Nat.reduceAdd, Nat.reduceEqDiff, or_false, not_false_eq_true, forall_eq_or_imp, forall_eq, or_self, Nat.reduceLT, Nat.reduceLeDiff, and_self, List.forall_mem_cons, List.not_mem_nil, false_implies, implies_true, and_true, true_and, vcOAb26]) ?_; simp only [ren_v, ren_p, ren_sl, ren_undef, ren_tupE, ren_tup, avren_v, avren_p, avren_nat4, ren_nat4, lk_def, pickH_nil, pickH_cons, consH_some, List.map_cons, List.map_nil, List.getD_cons_zero, List.getD_cons_succ, List.getElem?_cons_zero, List.getElem?_cons_succ])
  all_goals
    refine X_loop (ι := Nat) (fun i => i ≤ blen n) (fun i => blen n - i) [9, 18, 19, 20, 21, 22, 23, 24, 25, 26, 27, 28, 29, 30, 31, 32, 33]
      (fun i => [(18, .s (.v (.int .i64 (i : Nat))))])
      (fun i => [(3, nat4 (gimg m a n i)), (4, nat4 (pimg m a i))]) 0 (shape_of fun i => ?_) (by decide) ?_ ?_
    · simp only [List.length_cons, List.length_nil, List.map_cons, List.map_nil, List.nodup_cons, List.nodup_nil, List.mem_cons, Nat.reduceAdd, Nat.reduceEqDiff, or_false, not_false_eq_true, forall_eq_or_imp, forall_eq, or_self, Nat.reduceLT, Nat.reduceLeDiff, and_self, List.forall_mem_cons, List.not_mem_nil, false_implies, implies_true, and_true, true_and, vcOAb26]
    · simp -implicitDefEqProofs (maxSteps := 1000000) (disch := first | exact dz0 | fail) only [vcR, vcT, simprocAttr, Ab.part, implies_true, forall_const, true_or, Option.isNone_some, Option.isNone_none, vcXAb26, Tryd.f44, List.toList_toArray, again_eq]
      try simp
    · intro i us hk
      (repeat (refine X_of _ ?_; simp -implicitDefEqProofs (maxSteps := 1000000) (disch := first | exact dz0 | fail) only [vcR, vcT, simprocAttr, Ab.part, implies_true, forall_const, true_or, Option.isNone_some, Option.isNone_none, vcXAb26, Tryd.f44, List.toList_toArray]))
      refine ⟨fun h => ?_, fun h => ?_⟩
      · have hs := gimg_step hG a n i
        have hp := pimg_step hG a i
        have m1 := mul_e k m (gimg m a n i) (pimg m a i) hG (gimg_lt hG a n i) (pimg_lt hG a i)
        have m2 := mul_e k m (pimg m a i) (pimg m a i) hG (pimg_lt hG a i) (pimg_lt hG a i)
        rw [hp] at m2
        obtain ⟨g, hg⟩ : ∃ g, gimg m a n i = g := ⟨_, rfl⟩
        obtain ⟨g', hg'⟩ : ∃ g, gimg m a n (i + 1) = g := ⟨_, rfl⟩
        obtain ⟨p, hp1⟩ : ∃ g, pimg m a i = g := ⟨_, rfl⟩
        obtain ⟨p', hp1'⟩ : ∃ g, pimg m a (i + 1) = g := ⟨_, rfl⟩
        rw [hg, hp1] at m1
        rw [hp1, hp1'] at m2
        rw [hg, hg', hp1] at hs
        rw [hg, hp1]
        rcases hs with ⟨h3, h4⟩ | ⟨h3, h4⟩
        · have h5 : ((n / 2 ^ i % 2 : Nat) : Int) = 0 := by omega
          clear h1 h2 h3 m1 hp
          (repeat' ((first | with_reducible (first | apply XR_cons | apply XR_consG | apply XR_nil | apply XM_cons | apply XM_consG | apply XM_nil | apply cF_pure (by assumption) | apply cM_pure (by assumption) | apply cF_ev (by assumption) | apply cM_ev (by assumption) | apply cF_pure (bit_n _ _ bd0) | apply cM_pure (bit_n _ _ bd0) | apply cF_pure (len_c _ bd0) | apply cM_pure (len_c _ bd0) | apply cF_ev (from_e _ _ _ bd0 bd0) | apply cM_ev (from_e _ _ _ bd0 bd0) | apply cF_ev (mul_e _ _ _ _ bd0 bd0 bd0) | apply cM_ev (mul_e _ _ _ _ bd0 bd0 bd0) | apply cF_ev (to_e _ _ _ bd0 bd0) | apply cM_ev (to_e _ _ _ bd0 bd0)) | (with_reducible apply X_drawM (id := 1) 6 [] trM6bn44x1; (next => (kernel_rfl)); (next => (kernel_rfl))) | refine X_of _ ?_ | with_reducible (first | exact ⟨_, rfl⟩ | refine And.intro ?_ ?_ | intro _)) <;> try simp -implicitDefEqProofs (maxSteps := 1000000) (disch := first | exact dz0 | fail) only [vcR, vcT, simprocAttr, Ab.part, implies_true, forall_const, true_or, Option.isNone_some, Option.isNone_none, vcXAb26, Tryd.f44, List.toList_toArray, arr4_zero, nat4_set1, nat4_setL, nat4_set0, h5, trM6bn44x1]))
          refine ⟨i + 1, by omega, ?_⟩
          simp -implicitDefEqProofs (maxSteps := 1000000) (disch := first | exact dz0 | fail) only [vcR, vcT, simprocAttr, Ab.part, implies_true, forall_const, true_or, Option.isNone_some, Option.isNone_none, vcXAb26, Tryd.f44, List.toList_toArray, again_eq,hg',hp1',h4]
          try simp
        · have h5 : ((n / 2 ^ i % 2 : Nat) : Int) = 1 := by omega
          rw [h4] at m1
          clear h1 h2 h3 hp
          (repeat' ((first | with_reducible (first | apply XR_cons | apply XR_consG | apply XR_nil | apply XM_cons | apply XM_consG | apply XM_nil | apply cF_pure (by assumption) | apply cM_pure (by assumption) | apply cF_ev (by assumption) | apply cM_ev (by assumption) | apply cF_pure (bit_n _ _ bd0) | apply cM_pure (bit_n _ _ bd0) | apply cF_pure (len_c _ bd0) | apply cM_pure (len_c _ bd0) | apply cF_ev (from_e _ _ _ bd0 bd0) | apply cM_ev (from_e _ _ _ bd0 bd0) | apply cF_ev (mul_e _ _ _ _ bd0 bd0 bd0) | apply cM_ev (mul_e _ _ _ _ bd0 bd0 bd0) | apply cF_ev (to_e _ _ _ bd0 bd0) | apply cM_ev (to_e _ _ _ bd0 bd0)) | (with_reducible apply X_drawM (id := 1) 6 [] trM6bn44x1; (next => (kernel_rfl)); (next => (kernel_rfl))) | refine X_of _ ?_ | with_reducible (first | exact ⟨_, rfl⟩ | refine And.intro ?_ ?_ | intro _)) <;> try simp -implicitDefEqProofs (maxSteps := 1000000) (disch := first | exact dz0 | fail) only [vcR, vcT, simprocAttr, Ab.part, implies_true, forall_const, true_or, Option.isNone_some, Option.isNone_none, vcXAb26, Tryd.f44, List.toList_toArray, arr4_zero, nat4_set1, nat4_setL, nat4_set0, h5, trM6bn44x1]))
          refine ⟨i + 1, by omega, ?_⟩
          simp -implicitDefEqProofs (maxSteps := 1000000) (disch := first | exact dz0 | fail) only [vcR, vcT, simprocAttr, Ab.part, implies_true, forall_const, true_or, Option.isNone_some, Option.isNone_none, vcXAb26, Tryd.f44, List.toList_toArray, again_eq,hg',hp1']
          try simp
      · have hk2 : i = blen n := by omega
        subst hk2
        clear h1 h2
        (repeat' ((first | with_reducible (first | apply XR_cons | apply XR_consG | apply XR_nil | apply XM_cons | apply XM_consG | apply XM_nil | apply cF_pure (by assumption) | apply cM_pure (by assumption) | apply cF_ev (by assumption) | apply cM_ev (by assumption) | apply cF_pure (bit_n _ _ bd0) | apply cM_pure (bit_n _ _ bd0) | apply cF_pure (len_c _ bd0) | apply cM_pure (len_c _ bd0) | apply cF_ev (from_e _ _ _ bd0 bd0) | apply cM_ev (from_e _ _ _ bd0 bd0) | apply cF_ev (mul_e _ _ _ _ bd0 bd0 bd0) | apply cM_ev (mul_e _ _ _ _ bd0 bd0 bd0) | apply cF_ev (to_e _ _ _ bd0 bd0) | apply cM_ev (to_e _ _ _ bd0 bd0)) | (with_reducible apply X_drawM (id := 1) 6 [] trM6bn44x1; (next => (kernel_rfl)); (next => (kernel_rfl))) | refine X_of _ ?_ | with_reducible (first | exact ⟨_, rfl⟩ | refine And.intro ?_ ?_ | intro _)) <;> try simp -implicitDefEqProofs (maxSteps := 1000000) (disch := first | exact dz0 | fail) only [vcR, vcT, simprocAttr, Ab.part, implies_true, forall_const, true_or, Option.isNone_some, Option.isNone_none, vcXAb26, Tryd.f44, List.toList_toArray, arr4_zero, nat4_set1, nat4_setL, nat4_set0, trM6bn44x1]))
theorem OddM.msub_lt {m x y : Nat} (h : OddM m) : msub m x y < 2 ^ 256 := h.mod_lt
def oneK : Nat → World → Prop := natsAt (modEvo 108) (some ⟨2, 0, none⟩) 1 fun _ => 1
theorem oneK_stays : Stays (modEvo 108) oneK := natsAt_stays _ _ _ _
theorem Kn.one1 {Γ : Ctx} (h : Kn Γ oneK) {K : TV → HE → Prop} : xext Γ (some true) 4 ⟨2, 0, none⟩ K = K (.agg (nat4 1)) .none := Kn.gnat h
def memB (P Q a : Nat) : Bool := decide (a ≠ 0) && decide (a < P) && decide (a ^ Q % P = 1)
abbrev GK (k kx kq P Q G : Nat) : Nat → World → Prop := isGrp 108 k kx kq P Q G
theorem gQ_e (k kx kq P Q G : Nat) : EvC (modEvo 108) Tryd.prog 22 [.s (.v (.pointer (some ⟨k, 0, none⟩)))] (GK k kx kq P Q G) (.s (.v (.pointer (some ⟨kq, 0, none⟩)))) := by
  (refine evC_of Tryd.func22 rfl (by simp only [List.length_cons, List.length_nil, List.map_cons, List.map_nil, List.nodup_cons, List.nodup_nil, List.mem_cons, Nat.reduceAdd, Nat.reduceEqDiff, or_false, not_false_eq_true, forall_eq_or_imp, forall_eq, or_self, Nat.reduceLT, Nat.reduceLeDiff, and_self, List.forall_mem_cons, List.not_mem_nil, false_implies, implies_true, and_true, true_and, vcOGb]) (by simp only [List.length_cons, List.length_nil, List.map_cons, List.map_nil, List.nodup_cons, List.nodup_nil, List.mem_cons, Nat.reduceAdd, Nat.reduceEqDiff, or_false, not_false_eq_true, forall_eq_or_imp, forall_eq, or_self, Nat.reduceLT, Nat.reduceLeDiff, and_self, List.forall_mem_cons, List.not_mem_nil, false_implies, implies_true, and_true, true_and, vcOGb]) fun B w hpre => ?_; simp only [List.length_cons, List.length_nil, Tryd.ntmps22, Nat.reduceAdd, Nat.reduceSub, List.replicate_succ, List.replicate_zero, List.cons_append, List.nil_append])
  have h1 := Kn.entry (P := Tryd.prog) (isGrp_stays 108 k kx kq P Q G) hpre
  have hq : ∀ {K : TV → HE → Prop} {q : Nat}, xext (ctxE Tryd.prog (modEvo 108) w B) (some false) q ⟨k, 13, none⟩ K = K (.s (.v (.pointer (some ⟨kq, 0, none⟩)))) .none := fun {K} => h1.gq
  clear hpre
  (repeat' ((first | with_reducible (first | apply cF_pure2 (by assumption) | apply cF_ev2 (by assumption)) | refine X_of _ ?_ | with_reducible (first | exact ⟨_, rfl⟩ | refine And.intro ?_ ?_ | intro _)) <;> try simp -implicitDefEqProofs (maxSteps := 1000000) (disch := first | exact dz2 | fail) only [vcR, vcT, simprocAttr, Ab.part, implies_true, forall_const, true_or, Option.isNone_some, Option.isNone_none, vcXGb, Tryd.f22, List.toList_toArray, arr4_zero, nat4_set1, nat4_setL, nat4_set0, addr_add,hq]))
theorem gBase_e (k kx kq P Q G n : Nat) (hG : G < 2 ^ 256) (hn : n < 2 ^ 256) : EvC (modEvo 108) Tryd.prog 18 [.s (.v (.pointer (some ⟨k, 0, none⟩))), .agg (nat4 n)] (GK k kx kq P Q G) (.agg (nat4 (G ^ n % P))) := by
  (refine evC_of Tryd.func18 rfl (by simp only [List.length_cons, List.length_nil, List.map_cons, List.map_nil, List.nodup_cons, List.nodup_nil, List.mem_cons, Nat.reduceAdd, Nat.reduceEqDiff, or_false, not_false_eq_true, forall_eq_or_imp, forall_eq, or_self, Nat.reduceLT, Nat.reduceLeDiff, and_self, List.forall_mem_cons, List.not_mem_nil, false_implies, implies_true, and_true, true_and, vcOGb]) (by simp only [List.length_cons, List.length_nil, List.map_cons, List.map_nil, List.nodup_cons, List.nodup_nil, List.mem_cons, Nat.reduceAdd, Nat.reduceEqDiff, or_false, not_false_eq_true, forall_eq_or_imp, forall_eq, or_self, Nat.reduceLT, Nat.reduceLeDiff, and_self, List.forall_mem_cons, List.not_mem_nil, false_implies, implies_true, and_true, true_and, vcOGb]) fun B w hpre => ?_; simp only [List.length_cons, List.length_nil, Tryd.ntmps18, Nat.reduceAdd, Nat.reduceSub, List.replicate_succ, List.replicate_zero, List.cons_append, List.nil_append])
  have h1 := Kn.entry (P := Tryd.prog) (isGrp_stays 108 k kx kq P Q G) hpre
  have hm := h1.gmx
  obtain ⟨hP, hQ⟩ := h1.gOdd
  have hx : ∀ {K : TV → HE → Prop} {q : Nat}, xext (ctxE Tryd.prog (modEvo 108) w B) (some false) q ⟨k, 12, none⟩ K = K (.s (.v (.pointer (some ⟨kx, 0, none⟩)))) .none := fun {K} => h1.gx
  have hg : ∀ {K : TV → HE → Prop}, xext (ctxE Tryd.prog (modEvo 108) w B) (some true) 4 ⟨k, 8, none⟩ K = K (.agg (nat4 G)) .none := fun {K} => h1.gG
  clear hpre
  have hpw := pow_e kx P G n hP hG hn
  obtain ⟨r, hr⟩ : ∃ r, G ^ n % P = r := ⟨_, rfl⟩
  rw [hr] at hpw ⊢
  (repeat' ((first | with_reducible (first | apply XQ_cons | apply XQ_consG | apply XQ_nil | apply XR_cons | apply XR_consG | apply XR_nil | apply cF_pure2 (by assumption) | apply cV_pure2 (by assumption) | apply cF_ev2 (by assumption) | apply cV_ev2 (by assumption)) | (with_reducible apply X_drawC (id := 1) 11; (next => (kernel_rfl)); (next => (kernel_rfl))) | refine X_of _ ?_ | with_reducible (first | exact ⟨_, rfl⟩ | refine And.intro ?_ ?_ | intro _)) <;> try simp -implicitDefEqProofs (maxSteps := 1000000) (disch := first | exact dz2 | fail) only [vcR, vcT, simprocAttr, Ab.part, implies_true, forall_const, true_or, Option.isNone_some, Option.isNone_none, vcXGb, Tryd.f18, List.toList_toArray, arr4_zero, nat4_set1, nat4_setL, nat4_set0, addr_add,hx,hg]))
theorem gMember_e (k kx kq P Q G a : Nat) (hP2 : P < 2 ^ 256) (hQ2 : Q < 2 ^ 256) (ha : a < 2 ^ 256) :
    EvC (modEvo 108) Tryd.prog 17 [.s (.v (.pointer (some ⟨k, 0, none⟩))), .agg (nat4 a)] (fun B w => GK k kx kq P Q G B w ∧ oneK B w) (.s (.v (.bool (memB P Q a)))) := by
  (refine evC_of Tryd.func17 rfl (by simp only [List.length_cons, List.length_nil, List.map_cons, List.map_nil, List.nodup_cons, List.nodup_nil, List.mem_cons, Nat.reduceAdd, Nat.reduceEqDiff, or_false, not_false_eq_true, forall_eq_or_imp, forall_eq, or_self, Nat.reduceLT, Nat.reduceLeDiff, and_self, List.forall_mem_cons, List.not_mem_nil, false_implies, implies_true, and_true, true_and, vcOGb]) (by simp only [List.length_cons, List.length_nil, List.map_cons, List.map_nil, List.nodup_cons, List.nodup_nil, List.mem_cons, Nat.reduceAdd, Nat.reduceEqDiff, or_false, not_false_eq_true, forall_eq_or_imp, forall_eq, or_self, Nat.reduceLT, Nat.reduceLeDiff, and_self, List.forall_mem_cons, List.not_mem_nil, false_implies, implies_true, and_true, true_and, vcOGb]) fun B w hpre => ?_; simp only [List.length_cons, List.length_nil, Tryd.ntmps17, Nat.reduceAdd, Nat.reduceSub, List.replicate_succ, List.replicate_zero, List.cons_append, List.nil_append])
  have h0 := Kn.entry (P := Tryd.prog) ((isGrp_stays 108 k kx kq P Q G).and oneK_stays) hpre
  have h1 := h0.left
  have h2 := h0.right
  have hm := h1.gmx
  obtain ⟨hP, hQ⟩ := h1.gOdd
  have hx : ∀ {K : TV → HE → Prop} {q : Nat}, xext (ctxE Tryd.prog (modEvo 108) w B) (some false) q ⟨k, 12, none⟩ K = K (.s (.v (.pointer (some ⟨kx, 0, none⟩)))) .none := fun {K} => h1.gx
  have hp : ∀ {K : TV → HE → Prop}, xext (ctxE Tryd.prog (modEvo 108) w B) (some true) 4 ⟨k, 0, none⟩ K = K (.agg (nat4 P)) .none := fun {K} => h1.gP
  have hq : ∀ {K : TV → HE → Prop}, xext (ctxE Tryd.prog (modEvo 108) w B) (some true) 4 ⟨k, 4, none⟩ K = K (.agg (nat4 Q)) .none := fun {K} => h1.gQ
  have h11 : ∀ {K : TV → HE → Prop}, xext (ctxE Tryd.prog (modEvo 108) w B) (some true) 4 ⟨2, 0, none⟩ K = K (.agg (nat4 1)) .none := fun {K} => Kn.one1 h2
  clear hpre h0
  have hpw := pow_e kx P a Q hP ha hQ2
  unfold memB
  obtain ⟨r, hr⟩ : ∃ r, a ^ Q % P = r := ⟨_, rfl⟩
  have hr2 : r < 2 ^ 256 := by rw [← hr]; exact Nat.lt_of_lt_of_le (Nat.mod_lt _ hP.pos) (Nat.le_of_lt hP2)
  rw [hr] at hpw ⊢
  clear hr
  by_cases ha0 : a = 0
  · subst ha0
    (repeat' ((first | with_reducible (first | apply XQ_cons | apply XQ_consG | apply XQ_nil | apply XR_cons | apply XR_consG | apply XR_nil | apply cF_pure2 (by assumption) | apply cV_pure2 (by assumption) | apply cF_ev2 (by assumption) | apply cV_ev2 (by assumption) | apply cF_pure2 (cmp_c _ _ bd2 bd2) | apply cV_pure2 (cmp_c _ _ bd2 bd2)) | (with_reducible apply X_drawC (id := 1) 29; (next => (kernel_rfl)); (next => (kernel_rfl))) | refine X_of _ ?_ | with_reducible (first | exact ⟨_, rfl⟩ | refine And.intro ?_ ?_ | intro _)) <;> try simp -implicitDefEqProofs (maxSteps := 1000000) (disch := first | exact dz2 | fail) only [vcR, vcT, simprocAttr, Ab.part, implies_true, forall_const, true_or, Option.isNone_some, Option.isNone_none, vcXGb, Tryd.f17, List.toList_toArray, arr4_zero, nat4_set1, nat4_setL, nat4_set0, addr_add,hx,hp,hq,h11]))
    rfl
  · have hd0 : decide (a = 0) = false := decide_eq_false ha0
    have hd1 : decide (a ≠ 0) = true := decide_eq_true ha0
    by_cases haP : a < P
    · have hs := sg_lt0 haP
      have hdP : decide (a < P) = true := decide_eq_true haP
      rw [hd1, hdP]
      clear hd1 hdP ha0 haP
      (repeat' ((first | with_reducible (first | apply XQ_cons | apply XQ_consG | apply XQ_nil | apply XR_cons | apply XR_consG | apply XR_nil | apply cF_pure2 (by assumption) | apply cV_pure2 (by assumption) | apply cF_ev2 (by assumption) | apply cV_ev2 (by assumption) | apply cF_pure2 (cmp_c _ _ bd2 bd2) | apply cV_pure2 (cmp_c _ _ bd2 bd2)) | (with_reducible apply X_drawC (id := 1) 29; (next => (kernel_rfl)); (next => (kernel_rfl))) | refine X_of _ ?_ | with_reducible (first | exact ⟨_, rfl⟩ | refine And.intro ?_ ?_ | intro _)) <;> try simp -implicitDefEqProofs (maxSteps := 1000000) (disch := first | exact dz2 | fail) only [vcR, vcT, simprocAttr, Ab.part, implies_true, forall_const, true_or, Option.isNone_some, Option.isNone_none, vcXGb, Tryd.f17, List.toList_toArray, arr4_zero, nat4_set1, nat4_setL, nat4_set0, addr_add,hx,hp,hq,h11,hd0,hs]))
      simp
    · have hs : ¬ sg a P < 0 := by have := sg_nonneg (Nat.le_of_not_lt haP); omega
      have hdP : decide (a < P) = false := decide_eq_false haP
      rw [hd1, hdP]
      clear hd1 hdP ha0 haP
      (repeat' ((first | with_reducible (first | apply XQ_cons | apply XQ_consG | apply XQ_nil | apply XR_cons | apply XR_consG | apply XR_nil | apply cF_pure2 (by assumption) | apply cV_pure2 (by assumption) | apply cF_ev2 (by assumption) | apply cV_ev2 (by assumption) | apply cF_pure2 (cmp_c _ _ bd2 bd2) | apply cV_pure2 (cmp_c _ _ bd2 bd2)) | (with_reducible apply X_drawC (id := 1) 29; (next => (kernel_rfl)); (next => (kernel_rfl))) | refine X_of _ ?_ | with_reducible (first | exact ⟨_, rfl⟩ | refine And.intro ?_ ?_ | intro _)) <;> try simp -implicitDefEqProofs (maxSteps := 1000000) (disch := first | exact dz2 | fail) only [vcR, vcT, simprocAttr, Ab.part, implies_true, forall_const, true_or, Option.isNone_some, Option.isNone_none, vcXGb, Tryd.f17, List.toList_toArray, arr4_zero, nat4_set1, nat4_setL, nat4_set0, addr_add,hx,hp,hq,h11,hd0,hs]))
      simp
def allM (P Q n : Nat) (a : Nat → Nat) : Bool := (List.range n).all fun i => memB P Q (a i)
theorem allM_iff {P Q n : Nat} {a : Nat → Nat} : allM P Q n a = true ↔ ∀ i, i < n → memB P Q (a i) = true := by simp [allM]
theorem allM_not {P Q n : Nat} {a : Nat → Nat} (h : allM P Q n a = false) : ∃ i, i < n ∧ memB P Q (a i) = false := by
  simpa [allM] using h
def ixOf (P Q n : Nat) (a : Nat → Nat) (r : Int) : Prop := (∃ i, i < n ∧ memB P Q (a i) = false ∧ (∀ j, j < i → memB P Q (a j) = true) ∧ r = (i : Int)) ∨ ((∀ j, j < n → memB P Q (a j) = true) ∧ r = -1)
theorem ixOf_ex (P Q n : Nat) (a : Nat → Nat) : ∃ r, ixOf P Q n a r ∧ decide (r ≥ 0) = !allM P Q n a := by
  cases h : allM P Q n a with
  | true => exact ⟨-1, .inr ⟨allM_iff.1 h, rfl⟩, rfl⟩
  | false =>
    have hf : ∀ n, (∃ i, i < n ∧ memB P Q (a i) = false) → ∃ i, i < n ∧ memB P Q (a i) = false ∧ ∀ j, j < i → memB P Q (a j) = true := by
      intro n
      induction n with
      | zero => rintro ⟨i, hi, _⟩; omega
      | succ n ih =>
        rintro ⟨i, hi, h1⟩
        by_cases h2 : ∃ i, i < n ∧ memB P Q (a i) = false
        · obtain ⟨i, h3, h4⟩ := ih h2
          exact ⟨i, by omega, h4⟩
        · have h3 : ∀ j, j < n → memB P Q (a j) = true := fun j hj => by
            cases h4 : memB P Q (a j) with
            | true => rfl
            | false => exact absurd ⟨j, hj, h4⟩ h2
          by_cases hin : i < n
          · exact absurd ⟨i, hin, h1⟩ h2
          · have : i = n := by omega
            subst this
            exact ⟨i, by omega, h1, h3⟩
    obtain ⟨i, h1, h2, h3⟩ := hf n (allM_not h)
    exact ⟨(i : Int), .inl ⟨i, h1, h2, h3, rfl⟩, by simp⟩
def mulS (P : Nat) (a b : Nat → Nat) : Nat → Nat
  | 0 => 1
  | n + 1 => mulS P a b n * (a n ^ b n % P) % P
theorem mulS_lt {P : Nat} (h : OddM P) (a b : Nat → Nat) : ∀ n, mulS P a b n < 2 ^ 256
  | 0 => by show 1 < 2 ^ 256; decide
  | n + 1 => h.mod_lt
def muE (P Q n m : Nat) (a : Nat → Nat) : Int := if n ≠ m ∨ 40 < n then 1 else if allM P Q n a then 0 else 22
def muV (P Q n m : Nat) (a b : Nat → Nat) : Nat := if muE P Q n m a = 0 then mulS P a b n else 0
theorem gm1_e (j k kx kq P Q G a : Nat) (hP2 : P < 2 ^ 256) (hQ2 : Q < 2 ^ 256) (ha : a < 2 ^ 256) :
    EvC (modEvo 108) Tryd.prog 53 [.agg (nat4 a), .s (.v (.pointer (some ⟨j, 0, none⟩)))] (fun B w => (GK k kx kq P Q G B w ∧ oneK B w) ∧ cellAt (modEvo 108) j (.pointer (some ⟨k, 0, none⟩)) B w) (.s (.v (.bool (!memB P Q a)))) := by
  (refine evC_of Tryd.func53 rfl (by simp only [List.length_cons, List.length_nil, List.map_cons, List.map_nil, List.nodup_cons, List.nodup_nil, List.mem_cons, Nat.reduceAdd, Nat.reduceEqDiff, or_false, not_false_eq_true, forall_eq_or_imp, forall_eq, or_self, Nat.reduceLT, Nat.reduceLeDiff, and_self, List.forall_mem_cons, List.not_mem_nil, false_implies, implies_true, and_true, true_and, vcOGb]) (by simp only [List.length_cons, List.length_nil, List.map_cons, List.map_nil, List.nodup_cons, List.nodup_nil, List.mem_cons, Nat.reduceAdd, Nat.reduceEqDiff, or_false, not_false_eq_true, forall_eq_or_imp, forall_eq, or_self, Nat.reduceLT, Nat.reduceLeDiff, and_self, List.forall_mem_cons, List.not_mem_nil, false_implies, implies_true, and_true, true_and, vcOGb]) fun B w hpre => ?_; simp only [List.length_cons, List.length_nil, Tryd.ntmps53, Nat.reduceAdd, Nat.reduceSub, List.replicate_succ, List.replicate_zero, List.cons_append, List.nil_append])
  have h0 := Kn.entry (P := Tryd.prog) (((isGrp_stays 108 k kx kq P Q G).and oneK_stays).and (cellAt_stays _ j _)) hpre
  have h1 := h0.left
  have h2 := h0.right
  have hj : ∀ {K : TV → HE → Prop} {q : Nat}, xext (ctxE Tryd.prog (modEvo 108) w B) (some false) q ⟨j, 0, none⟩ K = K (.s (.v (.pointer (some ⟨k, 0, none⟩)))) .none := fun {K} => h2.cell1
  have hm := gMember_e k kx kq P Q G a hP2 hQ2 ha
  clear hpre h0 h2
  (repeat' ((first | with_reducible (first | apply cF_pure2 (by assumption) | apply cF_ev2 (by assumption)) | refine X_of _ ?_ | with_reducible (first | exact ⟨_, rfl⟩ | refine And.intro ?_ ?_ | intro _)) <;> try simp -implicitDefEqProofs (maxSteps := 1000000) (disch := first | exact dz2 | fail) only [vcR, vcT, simprocAttr, Ab.part, implies_true, forall_const, true_or, Option.isNone_some, Option.isNone_none, vcXGb, Tryd.f53, List.toList_toArray, arr4_zero, nat4_set1, nat4_setL, nat4_set0, addr_add,hj]))
theorem gix_e (x : Option Addr) (n c : Nat) (a : Nat → Nat) (j k kx kq P Q G : Nat) (r : Int) (hr : ixOf P Q n a r) (hP2 : P < 2 ^ 256) (hQ2 : Q < 2 ^ 256) (ha : ∀ i, a i < 2 ^ 256) (hn : n < 9223372036854775808) :
    EvC (modEvo 108) Tryd.prog 84 [.s (.v (.slice x n c)), .s (.v (.func (.func 53) #[] #[.pointer (some ⟨j, 0, none⟩)]))]
      (fun B w => natsAt (modEvo 108) x n a B w ∧ (GK k kx kq P Q G B w ∧ oneK B w) ∧ cellAt (modEvo 108) j (.pointer (some ⟨k, 0, none⟩)) B w) (.s (.v (.int .i64 r))) := by
  (refine evC_of Tryd.func84 rfl (by simp only [List.length_cons, List.length_nil, List.map_cons, List.map_nil, List.nodup_cons, List.nodup_nil, List.mem_cons, Nat.reduceAdd, Nat.reduceEqDiff, or_false, not_false_eq_true, forall_eq_or_imp, forall_eq, or_self, Nat.reduceLT, Nat.reduceLeDiff, and_self, List.forall_mem_cons, List.not_mem_nil, false_implies, implies_true, and_true, true_and, vcOGb]) (by simp only [List.length_cons, List.length_nil, List.map_cons, List.map_nil, List.nodup_cons, List.nodup_nil, List.mem_cons, Nat.reduceAdd, Nat.reduceEqDiff, or_false, not_false_eq_true, forall_eq_or_imp, forall_eq, or_self, Nat.reduceLT, Nat.reduceLeDiff, and_self, List.forall_mem_cons, List.not_mem_nil, false_implies, implies_true, and_true, true_and, vcOGb]) fun B w hpre => ?_; simp only [List.length_cons, List.length_nil, Tryd.ntmps84, Nat.reduceAdd, Nat.reduceSub, List.replicate_succ, List.replicate_zero, List.cons_append, List.nil_append])
  have hN0 := hpre.1
  have h0 := Kn.entry (P := Tryd.prog) ((natsAt_stays _ x n a).and (((isGrp_stays 108 k kx kq P Q G).and oneK_stays).and (cellAt_stays _ j _))) hpre
  have hN := h0.left
  have h1 := h0.right
  clear hpre h0
  (repeat' ((first | with_reducible (first | apply cF_pure2 (by assumption) | apply cF_ev2 (by assumption)) | refine X_of _ ?_ | with_reducible (first | exact ⟨_, rfl⟩ | refine And.intro ?_ ?_ | intro _)) <;> try simp -implicitDefEqProofs (maxSteps := 1000000) (disch := first | exact dz2 | fail) only [vcR, vcT, simprocAttr, Ab.part, implies_true, forall_const, true_or, Option.isNone_some, Option.isNone_none, vcXGb, Tryd.f84, List.toList_toArray, arr4_zero, nat4_set1, nat4_setL, nat4_set0]))
  refine X_loop (ι := Nat) (fun i => i ≤ n ∧ ∀ q, q < i → memB P Q (a q) = true) (fun i => n - i) [5, 8, 9, 10, 11, 12, 13, 14, 15, 16, 17, 18]
    (fun i => [(8, .s (.v (.int .i64 (i : Nat))))])
    (fun i => []) 0 (shape_of fun i => ?_) (by decide) ?_ ?_
  · simp only [List.length_cons, List.length_nil, List.map_cons, List.map_nil, List.nodup_cons, List.nodup_nil, List.mem_cons, Nat.reduceAdd, Nat.reduceEqDiff, or_false, not_false_eq_true, forall_eq_or_imp, forall_eq, or_self, Nat.reduceLT, Nat.reduceLeDiff, and_self, List.forall_mem_cons, List.not_mem_nil, false_implies, implies_true, and_true, true_and, vcOGb]
  · simp -implicitDefEqProofs (maxSteps := 1000000) (disch := first | exact dz2 | fail) only [vcR, vcT, simprocAttr, Ab.part, implies_true, forall_const, true_or, Option.isNone_some, Option.isNone_none, vcXGb, Tryd.f84, List.toList_toArray, again_eq]
    first | exact ⟨⟨Nat.zero_le _, fun q hq => absurd hq (Nat.not_lt_zero q)⟩, _, rfl⟩ | (simp; done)
  · intro i us ⟨hi, hb⟩
    by_cases h : i < n
    · obtain ⟨ad, rfl⟩ : ∃ ad, x = some ad := by
        rcases hN0 with h0 | ⟨ad, h0, _⟩
        · omega
        · exact ⟨ad, h0⟩
      have hx : ∀ {K : TV → HE → Prop}, xext (ctxE Tryd.prog (modEvo 108) w B) (some true) 4 (ad.add (i * 4)) K = K (.agg (nat4 (a i))) .none := fun {K} => hN.nat h
      have hm := gm1_e j k kx kq P Q G (a i) hP2 hQ2 (ha i)
      clear hN0 ha
      cases hmb : memB P Q (a i) with
      | true =>
        rw [hmb] at hm
        clear hr
        (repeat' ((first | with_reducible (first | apply cF_pure2 (by assumption) | apply cF_ev2 (by assumption)) | refine X_of _ ?_ | with_reducible (first | exact ⟨_, rfl⟩ | refine And.intro ?_ ?_ | intro _)) <;> try simp -implicitDefEqProofs (maxSteps := 1000000) (disch := first | exact dz2 | fail) only [vcR, vcT, simprocAttr, Ab.part, implies_true, forall_const, true_or, Option.isNone_some, Option.isNone_none, vcXGb, Tryd.f84, List.toList_toArray, arr4_zero, nat4_set1, nat4_setL, nat4_set0, hx]))
        refine ⟨i + 1, by omega, ?_⟩
        simp -implicitDefEqProofs (maxSteps := 1000000) (disch := first | exact dz2 | fail) only [vcR, vcT, simprocAttr, Ab.part, implies_true, forall_const, true_or, Option.isNone_some, Option.isNone_none, vcXGb, Tryd.f84, List.toList_toArray, again_eq]
        refine ⟨fun q hq => ?_, _, rfl⟩
        by_cases hq2 : q < i
        · exact hb q hq2
        · have : q = i := by omega
          subst this
          exact hmb
      | false =>
        rw [hmb] at hm
        have hri : r = (i : Int) := by
          rcases hr with ⟨i', h1, h2, h3, h4⟩ | ⟨h1, _⟩
          · rw [h4]
            rcases Nat.lt_trichotomy i i' with h5 | h5 | h5
            · rw [h3 i h5] at hmb; cases hmb
            · rw [h5]
            · rw [hb i' h5] at h2; cases h2
          · rw [h1 i h] at hmb; cases hmb
        subst hri
        clear hr
        (repeat' ((first | with_reducible (first | apply cF_pure2 (by assumption) | apply cF_ev2 (by assumption)) | refine X_of _ ?_ | with_reducible (first | exact ⟨_, rfl⟩ | refine And.intro ?_ ?_ | intro _)) <;> try simp -implicitDefEqProofs (maxSteps := 1000000) (disch := first | exact dz2 | fail) only [vcR, vcT, simprocAttr, Ab.part, implies_true, forall_const, true_or, Option.isNone_some, Option.isNone_none, vcXGb, Tryd.f84, List.toList_toArray, arr4_zero, nat4_set1, nat4_setL, nat4_set0, hx]))
    · have : i = n := by omega
      subst this
      have hri : r = -1 := by
        rcases hr with ⟨i', h1, h2, _⟩ | ⟨_, h1⟩
        · rw [hb i' h1] at h2; cases h2
        · exact h1
      subst hri
      (repeat' ((first | with_reducible (first | apply cF_pure2 (by assumption) | apply cF_ev2 (by assumption)) | refine X_of _ ?_ | with_reducible (first | exact ⟨_, rfl⟩ | refine And.intro ?_ ?_ | intro _)) <;> try simp -implicitDefEqProofs (maxSteps := 1000000) (disch := first | exact dz2 | fail) only [vcR, vcT, simprocAttr, Ab.part, implies_true, forall_const, true_or, Option.isNone_some, Option.isNone_none, vcXGb, Tryd.f84, List.toList_toArray, arr4_zero, nat4_set1, nat4_setL, nat4_set0]))
theorem gct_e (x : Option Addr) (n c : Nat) (a : Nat → Nat) (j k kx kq P Q G : Nat) (hP2 : P < 2 ^ 256) (hQ2 : Q < 2 ^ 256) (ha : ∀ i, a i < 2 ^ 256) (hn : n < 9223372036854775808) :
    EvC (modEvo 108) Tryd.prog 52 [.s (.v (.slice x n c)), .s (.v (.func (.func 53) #[] #[.pointer (some ⟨j, 0, none⟩)]))]
      (fun B w => natsAt (modEvo 108) x n a B w ∧ (GK k kx kq P Q G B w ∧ oneK B w) ∧ cellAt (modEvo 108) j (.pointer (some ⟨k, 0, none⟩)) B w) (.s (.v (.bool (!allM P Q n a)))) := by
  obtain ⟨r, hr, hd⟩ := ixOf_ex P Q n a
  rw [← hd]
  clear hd
  (refine evC_of Tryd.func52 rfl (by simp only [List.length_cons, List.length_nil, List.map_cons, List.map_nil, List.nodup_cons, List.nodup_nil, List.mem_cons, Nat.reduceAdd, Nat.reduceEqDiff, or_false, not_false_eq_true, forall_eq_or_imp, forall_eq, or_self, Nat.reduceLT, Nat.reduceLeDiff, and_self, List.forall_mem_cons, List.not_mem_nil, false_implies, implies_true, and_true, true_and, vcOGb]) (by simp only [List.length_cons, List.length_nil, List.map_cons, List.map_nil, List.nodup_cons, List.nodup_nil, List.mem_cons, Nat.reduceAdd, Nat.reduceEqDiff, or_false, not_false_eq_true, forall_eq_or_imp, forall_eq, or_self, Nat.reduceLT, Nat.reduceLeDiff, and_self, List.forall_mem_cons, List.not_mem_nil, false_implies, implies_true, and_true, true_and, vcOGb]) fun B w hpre => ?_; simp only [List.length_cons, List.length_nil, Tryd.ntmps52, Nat.reduceAdd, Nat.reduceSub, List.replicate_succ, List.replicate_zero, List.cons_append, List.nil_append])
  have h0 := Kn.entry (P := Tryd.prog) ((natsAt_stays _ x n a).and (((isGrp_stays 108 k kx kq P Q G).and oneK_stays).and (cellAt_stays _ j _))) hpre
  have hm := gix_e x n c a j k kx kq P Q G r hr hP2 hQ2 ha hn
  clear hpre hr
  (repeat' ((first | with_reducible (first | apply cF_pure2 (by assumption) | apply cF_ev2 (by assumption)) | refine X_of _ ?_ | with_reducible (first | exact ⟨_, rfl⟩ | refine And.intro ?_ ?_ | intro _)) <;> try simp -implicitDefEqProofs (maxSteps := 1000000) (disch := first | exact dz2 | fail) only [vcR, vcT, simprocAttr, Ab.part, implies_true, forall_const, true_or, Option.isNone_some, Option.isNone_none, vcXGb, Tryd.f52, List.toList_toArray, arr4_zero, nat4_set1, nat4_setL, nat4_set0]))
theorem gfold_e (x y : Option Addr) (n c d : Nat) (a b : Nat → Nat) (kx P : Nat) (hP : OddM P) (ha : ∀ i, a i < 2 ^ 256) (hb : ∀ i, b i < 2 ^ 256) (hn : n < 9223372036854775808) :
    EvC (modEvo 108) Tryd.prog 54 [.s (.v (.slice x n c)), .s (.v (.slice y n d)), .s (.v (.func (.func 44) #[.pointer (some ⟨kx, 0, none⟩)] #[])), .s (.v (.func (.func 32) #[.pointer (some ⟨kx, 0, none⟩)] #[]))]
      (fun B w => (natsAt (modEvo 108) x n a B w ∧ natsAt (modEvo 108) y n b B w) ∧ (isMod 108 kx P B w ∧ oneK B w)) (.agg (nat4 (mulS P a b n))) := by
  (refine evC_of Tryd.func54 rfl (by simp only [List.length_cons, List.length_nil, List.map_cons, List.map_nil, List.nodup_cons, List.nodup_nil, List.mem_cons, Nat.reduceAdd, Nat.reduceEqDiff, or_false, not_false_eq_true, forall_eq_or_imp, forall_eq, or_self, Nat.reduceLT, Nat.reduceLeDiff, and_self, List.forall_mem_cons, List.not_mem_nil, false_implies, implies_true, and_true, true_and, vcOGb]) (by simp only [List.length_cons, List.length_nil, List.map_cons, List.map_nil, List.nodup_cons, List.nodup_nil, List.mem_cons, Nat.reduceAdd, Nat.reduceEqDiff, or_false, not_false_eq_true, forall_eq_or_imp, forall_eq, or_self, Nat.reduceLT, Nat.reduceLeDiff, and_self, List.forall_mem_cons, List.not_mem_nil, false_implies, implies_true, and_true, true_and, vcOGb]) fun B w hpre => ?_; simp only [List.length_cons, List.length_nil, Tryd.ntmps54, Nat.reduceAdd, Nat.reduceSub, List.replicate_succ, List.replicate_zero, List.cons_append, List.nil_append])
  have hN0 := hpre.1
  have h0 := Kn.entry (P := Tryd.prog) (((natsAt_stays _ x n a).and (natsAt_stays _ y n b)).and ((isMod_stays 108 kx P).and oneK_stays)) hpre
  have hNx := h0.left.left
  have hNy := h0.left.right
  have hM := h0.right.left
  have h1 := h0.right.right
  have h11 : ∀ {K : TV → HE → Prop}, xext (ctxE Tryd.prog (modEvo 108) w B) (some true) 4 ⟨2, 0, none⟩ K = K (.agg (nat4 1)) .none := fun {K} => Kn.one1 h1
  clear hpre h0
  (repeat' ((first | with_reducible (first | apply XR_cons | apply XR_consG | apply XR_nil | apply XM_cons | apply XM_consG | apply XM_nil | apply cF_pure2 (by assumption) | apply cM_pure2 (by assumption) | apply cF_ev2 (by assumption) | apply cM_ev2 (by assumption)) | (with_reducible apply X_drawM (id := 5) 8 [] (.cons 8 (.cons 9 (.cons 10 .nil .nil) .nil) .nil); (next => (kernel_rfl)); (next => (kernel_rfl))) | refine X_of _ ?_ | with_reducible (first | exact ⟨_, rfl⟩ | refine And.intro ?_ ?_ | intro _)) <;> try simp -implicitDefEqProofs (maxSteps := 1000000) (disch := first | exact dz2 | fail) only [vcR, vcT, simprocAttr, Ab.part, implies_true, forall_const, true_or, Option.isNone_some, Option.isNone_none, vcXGb, Tryd.f54, List.toList_toArray, arr4_zero, nat4_set1, nat4_setL, nat4_set0, h11]))
  refine X_loop (ι := Nat) (fun i => i ≤ n) (fun i => n - i) [10, 11, 15, 16, 17, 18, 19, 20, 21, 22, 23, 24, 25, 26, 27, 28, 29, 30]
    (fun i => [(15, .s (.v (.int .i64 (i : Nat))))])
    (fun i => [(1, nat4 (mulS P a b i))]) 0 (shape_of fun i => ?_) (by decide) ?_ ?_
  · simp only [List.length_cons, List.length_nil, List.map_cons, List.map_nil, List.nodup_cons, List.nodup_nil, List.mem_cons, Nat.reduceAdd, Nat.reduceEqDiff, or_false, not_false_eq_true, forall_eq_or_imp, forall_eq, or_self, Nat.reduceLT, Nat.reduceLeDiff, and_self, List.forall_mem_cons, List.not_mem_nil, false_implies, implies_true, and_true, true_and, vcOGb]
  · simp -implicitDefEqProofs (maxSteps := 1000000) (disch := first | exact dz2 | fail) only [vcR, vcT, simprocAttr, Ab.part, implies_true, forall_const, true_or, Option.isNone_some, Option.isNone_none, vcXGb, Tryd.f54, List.toList_toArray, again_eq]
    try simp
    all_goals rfl
  · intro i us hi
    by_cases h : i < n
    · obtain ⟨ad, rfl⟩ : ∃ ad, x = some ad := by
        rcases hN0.1 with h0 | ⟨ad, h0, _⟩
        · omega
        · exact ⟨ad, h0⟩
      obtain ⟨ay, rfl⟩ : ∃ ad, y = some ad := by
        rcases hN0.2 with h0 | ⟨ad, h0, _⟩
        · omega
        · exact ⟨ad, h0⟩
      have hx : ∀ {K : TV → HE → Prop}, xext (ctxE Tryd.prog (modEvo 108) w B) (some true) 4 (ad.add (i * 4)) K = K (.agg (nat4 (a i))) .none := fun {K} => hNx.nat h
      have hy : ∀ {K : TV → HE → Prop}, xext (ctxE Tryd.prog (modEvo 108) w B) (some true) 4 (ay.add (i * 4)) K = K (.agg (nat4 (b i))) .none := fun {K} => hNy.nat h
      have hp := pow_e kx P (a i) (b i) hP (ha i) (hb i)
      obtain ⟨p, hpp⟩ : ∃ p, a i ^ b i % P = p := ⟨_, rfl⟩
      have hp2 : p < 2 ^ 256 := by rw [← hpp]; exact hP.mod_lt
      have hs := mulS_lt hP a b i
      have hsi : mulS P a b (i + 1) = mulS P a b i * p % P := by rw [← hpp]; rfl
      obtain ⟨s, hss⟩ : ∃ s, mulS P a b i = s := ⟨_, rfl⟩
      obtain ⟨s', hss'⟩ : ∃ s', mulS P a b (i + 1) = s' := ⟨_, rfl⟩
      rw [hpp] at hp
      rw [hss] at hs hsi ⊢
      have ht := times_e kx P s p hP hs hp2
      rw [← hsi, hss'] at ht
      clear hN0 ha hb hpp hsi
      (repeat' ((first | with_reducible (first | apply XQ_cons | apply XQ_consG | apply XQ_nil | apply XR_cons | apply XR_consG | apply XR_nil | apply cF_pure2 (by assumption) | apply cV_pure2 (by assumption) | apply cF_ev2 (by assumption) | apply cV_ev2 (by assumption)) | (with_reducible apply X_drawC (id := 5) 10; (next => (kernel_rfl)); (next => (kernel_rfl))) | refine X_of _ ?_ | with_reducible (first | exact ⟨_, rfl⟩ | refine And.intro ?_ ?_ | intro _)) <;> try simp -implicitDefEqProofs (maxSteps := 1000000) (disch := first | exact dz2 | fail) only [vcR, vcT, simprocAttr, Ab.part, implies_true, forall_const, true_or, Option.isNone_some, Option.isNone_none, vcXGb, Tryd.f54, List.toList_toArray, arr4_zero, nat4_set1, nat4_setL, nat4_set0, hx,hy]))
      refine ⟨i + 1, by omega, ?_⟩
      simp -implicitDefEqProofs (maxSteps := 1000000) (disch := first | exact dz2 | fail) only [vcR, vcT, simprocAttr, Ab.part, implies_true, forall_const, true_or, Option.isNone_some, Option.isNone_none, vcXGb, Tryd.f54, List.toList_toArray, again_eq,hss']
      first | exact ⟨_, rfl, rfl⟩ | exact ⟨_, rfl⟩ | rfl | trace_state
    · have : i = n := by omega
      subst this
      (repeat' ((first | with_reducible (first | apply XR_cons | apply XR_consG | apply XR_nil | apply XM_cons | apply XM_consG | apply XM_nil | apply cF_pure2 (by assumption) | apply cM_pure2 (by assumption) | apply cF_ev2 (by assumption) | apply cM_ev2 (by assumption)) | (with_reducible apply X_drawM (id := 5) 8 [] (.cons 8 (.cons 9 (.cons 10 .nil .nil) .nil) .nil); (next => (kernel_rfl)); (next => (kernel_rfl))) | refine X_of _ ?_ | with_reducible (first | exact ⟨_, rfl⟩ | refine And.intro ?_ ?_ | intro _)) <;> try simp -implicitDefEqProofs (maxSteps := 1000000) (disch := first | exact dz2 | fail) only [vcR, vcT, simprocAttr, Ab.part, implies_true, forall_const, true_or, Option.isNone_some, Option.isNone_none, vcXGb, Tryd.f54, List.toList_toArray, arr4_zero, nat4_set1, nat4_setL, nat4_set0]))
theorem muE_arg {P Q n m : Nat} {a : Nat → Nat} (h : n ≠ m ∨ 40 < n) : muE P Q n m a = 1 := if_pos h
theorem muE_ok {P Q n m : Nat} {a : Nat → Nat} (h : ¬ (n ≠ m ∨ 40 < n)) : muE P Q n m a = if allM P Q n a then 0 else 22 := if_neg h
theorem gMulti_e (x y : Option Addr) (n m c d : Nat) (a b : Nat → Nat) (k kx kq P Q G : Nat) (hP2 : P < 2 ^ 256) (hQ2 : Q < 2 ^ 256) (ha : ∀ i, a i < 2 ^ 256) (hb : ∀ i, b i < 2 ^ 256) (hn : n < 9223372036854775808) (hm : m < 9223372036854775808) :
    EvC (modEvo 108) Tryd.prog 27 [.s (.v (.pointer (some ⟨k, 0, none⟩))), .s (.v (.slice x n c)), .s (.v (.slice y m d))]
      (fun B w => (natsAt (modEvo 108) x n a B w ∧ natsAt (modEvo 108) y m b B w) ∧ (GK k kx kq P Q G B w ∧ oneK B w)) (.tup [.agg (nat4 (muV P Q n m a b)), .s (.v (.int .i64 (muE P Q n m a)))]) := by
  (refine evC_of Tryd.func27 rfl (by simp only [List.length_cons, List.length_nil, List.map_cons, List.map_nil, List.nodup_cons, List.nodup_nil, List.mem_cons, Nat.reduceAdd, Nat.reduceEqDiff, or_false, not_false_eq_true, forall_eq_or_imp, forall_eq, or_self, Nat.reduceLT, Nat.reduceLeDiff, and_self, List.forall_mem_cons, List.not_mem_nil, false_implies, implies_true, and_true, true_and, vcOGb]) (by simp only [List.length_cons, List.length_nil, List.map_cons, List.map_nil, List.nodup_cons, List.nodup_nil, List.mem_cons, Nat.reduceAdd, Nat.reduceEqDiff, or_false, not_false_eq_true, forall_eq_or_imp, forall_eq, or_self, Nat.reduceLT, Nat.reduceLeDiff, and_self, List.forall_mem_cons, List.not_mem_nil, false_implies, implies_true, and_true, true_and, vcOGb]) fun B w hpre => ?_; simp only [List.length_cons, List.length_nil, Tryd.ntmps27, Nat.reduceAdd, Nat.reduceSub, List.replicate_succ, List.replicate_zero, List.cons_append, List.nil_append])
  have h0 := Kn.entry (P := Tryd.prog) (((natsAt_stays _ x n a).and (natsAt_stays _ y m b)).and ((isGrp_stays 108 k kx kq P Q G).and oneK_stays)) hpre
  clear hpre
  obtain ⟨hP, hQ⟩ := h0.right.left.gOdd
  unfold muV
  obtain ⟨e, he⟩ : ∃ e, muE P Q n m a = e := ⟨_, rfl⟩
  rw [he]
  by_cases hnm : n ≠ m ∨ 40 < n
  · rw [muE_arg hnm] at he
    subst he
    clear h0
    by_cases hnm2 : n = m
    · subst hnm2
      have h40 : 40 < n := by omega
      (repeat' ((first | with_reducible (first | apply XQ_cons | apply XQ_consG | apply XQ_nil | apply XR_cons | apply XR_consG | apply XR_nil | apply cF_pure2 (by assumption) | apply cV_pure2 (by assumption) | apply cF_ev2 (by assumption) | apply cV_ev2 (by assumption)) | with_reducible (first | apply gRS (by with_unfolding_all rfl) | apply gR (by with_unfolding_all rfl) | apply gS (by with_unfolding_all rfl) | fail) | (with_reducible apply X_drawC (id := 5) 12; (next => (kernel_rfl)); (next => (kernel_rfl))) | refine X_of _ ?_ | with_reducible (first | exact ⟨_, rfl⟩ | refine And.intro ?_ ?_ | intro _)) <;> try simp -implicitDefEqProofs (maxSteps := 1000000) (disch := first | exact dz2 | fail) only [vcR, vcT, simprocAttr, Ab.part, implies_true, forall_const, true_or, Option.isNone_some, Option.isNone_none, vcXGb, Tryd.f27, List.toList_toArray, arr4_zero, nat4_set1, nat4_setL, nat4_set0, bne_self_eq_false]))
    · have hbn : (n != m) = true := bne_iff_ne.2 hnm2
      (repeat' ((first | with_reducible (first | apply XQ_cons | apply XQ_consG | apply XQ_nil | apply XR_cons | apply XR_consG | apply XR_nil | apply cF_pure2 (by assumption) | apply cV_pure2 (by assumption) | apply cF_ev2 (by assumption) | apply cV_ev2 (by assumption)) | with_reducible (first | apply gRS (by with_unfolding_all rfl) | apply gR (by with_unfolding_all rfl) | apply gS (by with_unfolding_all rfl) | fail) | (with_reducible apply X_drawC (id := 5) 12; (next => (kernel_rfl)); (next => (kernel_rfl))) | refine X_of _ ?_ | with_reducible (first | exact ⟨_, rfl⟩ | refine And.intro ?_ ?_ | intro _)) <;> try simp -implicitDefEqProofs (maxSteps := 1000000) (disch := first | exact dz2 | fail) only [vcR, vcT, simprocAttr, Ab.part, implies_true, forall_const, true_or, Option.isNone_some, Option.isNone_none, vcXGb, Tryd.f27, List.toList_toArray, arr4_zero, nat4_set1, nat4_setL, nat4_set0, hbn]))
  · rw [muE_ok hnm] at he
    have hnm2 : n = m := by omega
    subst hnm2
    have h40 : n ≤ 40 := by omega
    clear hnm
    (refine X_of _ ?_; simp -implicitDefEqProofs (maxSteps := 1000000) (disch := first | exact dz2 | fail) only [vcR, vcT, simprocAttr, Ab.part, implies_true, forall_const, true_or, Option.isNone_some, Option.isNone_none, vcXGb, Tryd.f27, List.toList_toArray, bne_self_eq_false])
    refine X_rebase (modEvo 108) B [1] (by decide) (by simp) rfl (.inl ⟨rfl, rfl⟩) (fun _ h => h) (by simp [modEvo]) fun β1 w1 hR1 => ?_
    have h1 := h0.after (L := [1]) hR1 (by simp)
    have hc : Kn ((ctxE Tryd.prog (modEvo 108) w B).after (modEvo 108) B w1 β1 [1]) (cellAt (modEvo 108) (β1 0) (.pointer (some ⟨k, 0, none⟩))) := cellsAt_gone (n := 1) (V := modEvo 108) (B := B) (g := fun _ => .pointer (some ⟨k, 0, none⟩)) (L := [1]) (j := 0) hR1 rfl (by decide) (by simp) (by simp [modEvo]) fun i hi => by
      rcases i with _ | i
      · rfl
      · omega
    clear h0 hR1
    obtain ⟨j, hj⟩ : ∃ j, β1 0 = j := ⟨_, rfl⟩
    rw [hj] at hc
    have hNx : Kn ((ctxE Tryd.prog (modEvo 108) w B).after (modEvo 108) B w1 β1 [1]) _ := h1.left.left
    have hNy : Kn ((ctxE Tryd.prog (modEvo 108) w B).after (modEvo 108) B w1 β1 [1]) _ := h1.left.right
    have hG : Kn ((ctxE Tryd.prog (modEvo 108) w B).after (modEvo 108) B w1 β1 [1]) (GK k kx kq P Q G) := h1.right.left
    have hO : Kn ((ctxE Tryd.prog (modEvo 108) w B).after (modEvo 108) B w1 β1 [1]) oneK := h1.right.right
    have hM := hG.gmx
    clear h1
    have hx : ∀ {K : TV → HE → Prop} {q : Nat}, xext ((ctxE Tryd.prog (modEvo 108) w B).after (modEvo 108) B w1 β1 [1]) (some false) q ⟨k, 12, none⟩ K = K (.s (.v (.pointer (some ⟨kx, 0, none⟩)))) .none := fun {K} => hG.gx
    have hl : ∀ {K : TV → HE → Prop} {q : Nat}, xext ((ctxE Tryd.prog (modEvo 108) w B).after (modEvo 108) B w1 β1 [1]) (some false) q ⟨j, 0, none⟩ K = K (.s (.v (.pointer (some ⟨k, 0, none⟩)))) .none := fun {K} => hc.cell1
    have hct := gct_e x n c a j k kx kq P Q G hP2 hQ2 ha hn
    have hf := gfold_e x y n c d a b kx P hP ha hb hn
    have hs := mulS_lt hP a b n
    obtain ⟨s, hss⟩ : ∃ s, mulS P a b n = s := ⟨_, rfl⟩
    rw [hss] at hf hs ⊢
    clear ha hb hss
    cases hall : allM P Q n a with
    | true =>
      rw [hall] at he hct
      subst he
      try simp -implicitDefEqProofs (maxSteps := 1000000) (disch := first | exact dz2 | fail) only [vcR, vcT, simprocAttr, Ab.part, implies_true, forall_const, true_or, Option.isNone_some, Option.isNone_none, vcXGb, Tryd.f27, List.toList_toArray, arr4_zero,hj]
      (repeat' ((first | with_reducible (first | apply XQ_cons | apply XQ_consG | apply XQ_nil | apply XR_cons | apply XR_consG | apply XR_nil | apply cF_pure2 (by assumption) | apply cV_pure2 (by assumption) | apply cF_ev2 (by assumption) | apply cV_ev2 (by assumption)) | with_reducible (first | apply gRS (by with_unfolding_all rfl) | apply gR (by with_unfolding_all rfl) | apply gS (by with_unfolding_all rfl) | fail) | (with_reducible apply X_drawC (id := 5) 12; (next => (kernel_rfl)); (next => (kernel_rfl))) | refine X_of _ ?_ | with_reducible (first | exact ⟨_, rfl⟩ | refine And.intro ?_ ?_ | intro _)) <;> try simp -implicitDefEqProofs (maxSteps := 1000000) (disch := first | exact dz2 | fail) only [vcR, vcT, simprocAttr, Ab.part, implies_true, forall_const, true_or, Option.isNone_some, Option.isNone_none, vcXGb, Tryd.f27, List.toList_toArray, arr4_zero, nat4_set1, nat4_setL, nat4_set0, addr_add,hx,hl,bne_self_eq_false]))
    | false =>
      rw [hall] at he hct
      subst he
      try simp -implicitDefEqProofs (maxSteps := 1000000) (disch := first | exact dz2 | fail) only [vcR, vcT, simprocAttr, Ab.part, implies_true, forall_const, true_or, Option.isNone_some, Option.isNone_none, vcXGb, Tryd.f27, List.toList_toArray, arr4_zero,hj]
      (repeat' ((first | with_reducible (first | apply XQ_cons | apply XQ_consG | apply XQ_nil | apply XR_cons | apply XR_consG | apply XR_nil | apply cF_pure2 (by assumption) | apply cV_pure2 (by assumption) | apply cF_ev2 (by assumption) | apply cV_ev2 (by assumption)) | with_reducible (first | apply gRS (by with_unfolding_all rfl) | apply gR (by with_unfolding_all rfl) | apply gS (by with_unfolding_all rfl) | fail) | (with_reducible apply X_drawC (id := 5) 12; (next => (kernel_rfl)); (next => (kernel_rfl))) | refine X_of _ ?_ | with_reducible (first | exact ⟨_, rfl⟩ | refine And.intro ?_ ?_ | intro _)) <;> try simp -implicitDefEqProofs (maxSteps := 1000000) (disch := first | exact dz2 | fail) only [vcR, vcT, simprocAttr, Ab.part, implies_true, forall_const, true_or, Option.isNone_some, Option.isNone_none, vcXGb, Tryd.f27, List.toList_toArray, arr4_zero, nat4_set1, nat4_setL, nat4_set0, addr_add,hx,hl,bne_self_eq_false]))
end Go.Proofs.YtdmcknmjdlghgaaDoor
