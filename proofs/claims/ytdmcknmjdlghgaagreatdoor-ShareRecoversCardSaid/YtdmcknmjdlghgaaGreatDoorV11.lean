/-
  mont.New; the images; every method, told of any Mod.
  mont.New; the images; every method, told of any Mod.
  Package mont's statements: their code.
  group: Member, Base, Params, Q.
  group: products of powers.
  group: Multi.
  share: place, few, below.
  The calls' laws once more, with what is shown alike each time; all rules of this package and below, in one bundle.
  modq: sums.
  Euclid's way, modulo m.
  modq: what makes 1 with a number.
  modq: a polynomial's value.
  share: Value, Opens, Commit; sortitionref03.Nats.
-/
import Derived.Test.YtdmcknmjdlghgaaGreatDoorV01
import Derived.Test.YtdmcknmjdlghgaaGreatDoorV02
import Derived.Test.YtdmcknmjdlghgaaGreatDoorV03
import Derived.Test.YtdmcknmjdlghgaaGreatDoorV04
import Derived.Test.YtdmcknmjdlghgaaGreatDoorV05
import Derived.Test.YtdmcknmjdlghgaaGreatDoorV06
import Derived.Test.YtdmcknmjdlghgaaGreatDoorV07
import Derived.Test.YtdmcknmjdlghgaaGreatDoorV09
import Derived.Test.YtdmcknmjdlghgaaGreatDoorV10
namespace Go.Proofs.YtdmcknmjdlghgaaGreatDoor
open Go Go.Ab
set_option linter.unusedSimpArgs false
set_option linter.unusedVariables false
set_option linter.defProp false
set_option maxHeartbeats 20000000
set_option maxRecDepth 100000
theorem to_o (m : Nat) (b : Bool) (x : Nat) (hG : OddM m) (hx : x < 2 ^ 256) :
    OwnC Tryz.prog 68 [.s (.p 0 0), .agg (nat4 x)] [⟨135, modS m b⟩] [⟨135, modc m 1 0 (mi m) (sqm m)⟩] (.agg (nat4 (img m x))) := by
  have h1 := ready_o m b hG
  have h2 := mul_o m true x (sqm m) hG hx hG.sq_lt
  rw [modS_true, mo_sq hG] at h2
  clear hG hx
  (refine own_of Tryz.func68 rfl (by simp only [List.length_cons, List.length_nil, List.map_cons, List.map_nil, List.nodup_cons, List.nodup_nil, List.mem_cons, Nat.reduceAdd, Nat.reduceEqDiff, or_false, not_false_eq_true, forall_eq_or_imp, forall_eq, or_self, Nat.reduceLT, Nat.reduceLeDiff, and_self, List.forall_mem_cons, List.not_mem_nil, false_implies, implies_true, and_true, true_and, vcOAb26]) (by simp only [List.length_cons, List.length_nil, List.map_cons, List.map_nil, List.nodup_cons, List.nodup_nil, List.mem_cons, Nat.reduceAdd, Nat.reduceEqDiff, or_false, not_false_eq_true, forall_eq_or_imp, forall_eq, or_self, Nat.reduceLT, Nat.reduceLeDiff, and_self, List.forall_mem_cons, List.not_mem_nil, false_implies, implies_true, and_true, true_and, vcOAb26]) (by simp only [List.length_cons, List.length_nil, List.map_cons, List.map_nil, List.nodup_cons, List.nodup_nil, List.mem_cons, Nat.reduceAdd, Nat.reduceEqDiff, or_false, not_false_eq_true, forall_eq_or_imp, forall_eq, or_self, Nat.reduceLT, Nat.reduceLeDiff, and_self, List.forall_mem_cons, List.not_mem_nil, false_implies, implies_true, and_true, true_and, vcOAb26]) (by simp only [List.length_cons, List.length_nil, List.map_cons, List.map_nil, List.nodup_cons, List.nodup_nil, List.mem_cons, Nat.reduceAdd, Nat.reduceEqDiff, or_false, not_false_eq_true, forall_eq_or_imp, forall_eq, or_self, Nat.reduceLT, Nat.reduceLeDiff, and_self, List.forall_mem_cons, List.not_mem_nil, false_implies, implies_true, and_true, true_and, vcOAb26]) rfl fun w0 β0 => ?_; simp only [List.length_cons, List.length_nil, Tryz.ntmps68, Nat.reduceAdd, Nat.reduceSub, List.replicate_succ, List.replicate_zero, List.cons_append, List.nil_append])
  (repeat' ((first | with_reducible (first | apply XQ_cons | apply XQ_consG | apply XQ_nil | apply XR_cons | apply XR_consG | apply XR_nil | apply cF_pure (by assumption) | apply cV_pure (by assumption) | apply cF_ev (by assumption) | apply cV_ev (by assumption) | apply cF_own (by assumption) | apply cV_own (by assumption) | apply cF_ev (mul_e _ _ _ _ bd0 bd0 bd0) | apply cV_ev (mul_e _ _ _ _ bd0 bd0 bd0)) | ((with_reducible apply cF_new (by assumption)); (first | rintro _ _ ⟨rfl, rfl⟩ | rintro _ _ ⟨_, _, rfl, rfl⟩)) | (with_reducible apply X_drawC (id := 2) 7; (next => (kernel_rfl)); (next => (kernel_rfl))) | refine X_of _ ?_ | with_reducible (first | exact ⟨_, rfl⟩ | refine And.intro ?_ ?_ | intro _)) <;> try simp -implicitDefEqProofs (maxSteps := 1000000) (disch := first | exact dz0 | fail) only [vcR, vcT, simprocAttr, Ab.part, implies_true, forall_const, vcS, vcXAb26, Tryz.f68]))
theorem from_o (m : Nat) (b : Bool) (x : Nat) (hG : OddM m) (hx : x < 2 ^ 256) :
    OwnC Tryz.prog 72 [.s (.p 0 0), .agg (nat4 x)] [⟨135, modS m b⟩] [⟨135, modc m 1 0 (mi m) (sqm m)⟩] (.agg (nat4 (mo m x))) := by
  have h2 := mul_o m b x 1 hG hx (by decide)
  rw [Nat.mul_one] at h2
  clear hG hx
  (refine own_of Tryz.func72 rfl (by simp only [List.length_cons, List.length_nil, List.map_cons, List.map_nil, List.nodup_cons, List.nodup_nil, List.mem_cons, Nat.reduceAdd, Nat.reduceEqDiff, or_false, not_false_eq_true, forall_eq_or_imp, forall_eq, or_self, Nat.reduceLT, Nat.reduceLeDiff, and_self, List.forall_mem_cons, List.not_mem_nil, false_implies, implies_true, and_true, true_and, vcOAb26]) (by simp only [List.length_cons, List.length_nil, List.map_cons, List.map_nil, List.nodup_cons, List.nodup_nil, List.mem_cons, Nat.reduceAdd, Nat.reduceEqDiff, or_false, not_false_eq_true, forall_eq_or_imp, forall_eq, or_self, Nat.reduceLT, Nat.reduceLeDiff, and_self, List.forall_mem_cons, List.not_mem_nil, false_implies, implies_true, and_true, true_and, vcOAb26]) (by simp only [List.length_cons, List.length_nil, List.map_cons, List.map_nil, List.nodup_cons, List.nodup_nil, List.mem_cons, Nat.reduceAdd, Nat.reduceEqDiff, or_false, not_false_eq_true, forall_eq_or_imp, forall_eq, or_self, Nat.reduceLT, Nat.reduceLeDiff, and_self, List.forall_mem_cons, List.not_mem_nil, false_implies, implies_true, and_true, true_and, vcOAb26]) (by simp only [List.length_cons, List.length_nil, List.map_cons, List.map_nil, List.nodup_cons, List.nodup_nil, List.mem_cons, Nat.reduceAdd, Nat.reduceEqDiff, or_false, not_false_eq_true, forall_eq_or_imp, forall_eq, or_self, Nat.reduceLT, Nat.reduceLeDiff, and_self, List.forall_mem_cons, List.not_mem_nil, false_implies, implies_true, and_true, true_and, vcOAb26]) rfl fun w0 β0 => ?_; simp only [List.length_cons, List.length_nil, Tryz.ntmps72, Nat.reduceAdd, Nat.reduceSub, List.replicate_succ, List.replicate_zero, List.cons_append, List.nil_append])
  (repeat' ((first | with_reducible (first | apply cF_pure (by assumption) | apply cF_ev (by assumption) | apply cF_own (by assumption) | apply cF_ev (mul_e _ _ _ _ bd0 bd0 bd0)) | ((with_reducible apply cF_new (by assumption)); (first | rintro _ _ ⟨rfl, rfl⟩ | rintro _ _ ⟨_, _, rfl, rfl⟩)) | refine X_of _ ?_ | with_reducible (first | exact ⟨_, rfl⟩ | refine And.intro ?_ ?_ | intro _)) <;> try simp -implicitDefEqProofs (maxSteps := 1000000) (disch := first | exact dz0 | fail) only [vcR, vcT, simprocAttr, Ab.part, implies_true, forall_const, vcS, vcXAb26, Tryz.f72]))
theorem wd_low_odd (m : Nat) : wd m 0 % 2 = m % 2 := by simp only [wd]; omega
theorem new_bad (m : Nat) (hm : m < 2 ^ 256) (h : ¬ OddM m) : PureC Tryz.prog 47 [.agg (nat4 m)] (.tup [.s (.v (.pointer none)), .s (.v (.int .i64 (chk m)))]) := by
  have hw := wd_low_odd m
  have e0 : litsEq (lits 4 (wd m)) (lits 4 (wd 0)) = decide (m = 0) := litsEq_nat4 hm (by decide)
  have e1 : litsEq (lits 4 (wd m)) (lits 4 (wd 1)) = decide (m = 1) := litsEq_nat4 hm (by decide)
  have hb : bits .and .u64 ((wd m 0 : Nat) : Int) 1 = ((wd m 0 % 2 : Nat) : Int) := andOne _ (wd_lt m 0)
  obtain ⟨r, hr⟩ : ∃ r, chk m = r := ⟨_, rfl⟩
  have hcase : (m = 0 ∧ r = 11) ∨ (m ≠ 0 ∧ m = 1 ∧ r = 11) ∨ (m ≠ 0 ∧ m ≠ 1 ∧ m % 2 = 0 ∧ r = 12) := by
    by_cases h0 : m = 0
    · simp [chk, h0] at hr; simp [h0, hr]
    · by_cases h1 : m = 1
      · simp [chk, h1] at hr; simp [h1, hr]
      · by_cases h2 : m % 2 = 0
        · simp [chk, h0, h1, h2] at hr; simp [h0, h1, h2, hr]
        · exact absurd ⟨hm, by omega, by omega⟩ h
  rw [hr]
  clear hr hm h
  refine pureC_of Tryz.func47 rfl (by simp only [List.length_cons, List.length_nil, List.map_cons, List.map_nil, List.nodup_cons, List.nodup_nil, List.mem_cons, Nat.reduceAdd, Nat.reduceEqDiff, or_false, not_false_eq_true, forall_eq_or_imp, forall_eq, or_self, Nat.reduceLT, Nat.reduceLeDiff, and_self, List.forall_mem_cons, List.not_mem_nil, false_implies, implies_true, and_true, true_and, vcOAb26]) (by simp only [List.length_cons, List.length_nil, List.map_cons, List.map_nil, List.nodup_cons, List.nodup_nil, List.mem_cons, Nat.reduceAdd, Nat.reduceEqDiff, or_false, not_false_eq_true, forall_eq_or_imp, forall_eq, or_self, Nat.reduceLT, Nat.reduceLeDiff, and_self, List.forall_mem_cons, List.not_mem_nil, false_implies, implies_true, and_true, true_and, vcOAb26]) fun w => ?_
  simp only [List.length_cons, List.length_nil, Tryz.ntmps47, Nat.reduceAdd, Nat.reduceSub, List.replicate_succ, List.replicate_zero, List.cons_append, List.nil_append]
  rcases hcase with ⟨rfl, rfl⟩ | ⟨h0, h, rfl⟩ | ⟨h0, h1, h, rfl⟩
  · simp only [decide_true] at e0
    (repeat' ((first | with_reducible (first | apply XR_cons | apply XR_consG | apply XR_nil | apply cF_pure (by assumption) | apply cF_ev (by assumption) | apply cF_own (by assumption)) | ((with_reducible apply cF_new (by assumption)); (first | rintro _ _ ⟨rfl, rfl⟩ | rintro _ _ ⟨_, _, rfl, rfl⟩)) | with_reducible (first | apply gRS (by with_unfolding_all rfl) | apply gR (by with_unfolding_all rfl) | apply gS (by with_unfolding_all rfl) | fail) | refine X_of _ ?_ | with_reducible (first | exact ⟨_, rfl⟩ | refine And.intro ?_ ?_ | intro _)) <;> try simp -implicitDefEqProofs (maxSteps := 1000000) (disch := first | exact dz0 | fail) only [vcR, vcT, simprocAttr, Ab.part, implies_true, forall_const, vcS, vcXAb26, Tryz.f47, e0]))
  · simp only [h0, decide_false] at e0
    simp only [h, decide_true] at e1
    subst h
    (repeat' ((first | with_reducible (first | apply XR_cons | apply XR_consG | apply XR_nil | apply cF_pure (by assumption) | apply cF_ev (by assumption) | apply cF_own (by assumption)) | ((with_reducible apply cF_new (by assumption)); (first | rintro _ _ ⟨rfl, rfl⟩ | rintro _ _ ⟨_, _, rfl, rfl⟩)) | with_reducible (first | apply gRS (by with_unfolding_all rfl) | apply gR (by with_unfolding_all rfl) | apply gS (by with_unfolding_all rfl) | fail) | refine X_of _ ?_ | with_reducible (first | exact ⟨_, rfl⟩ | refine And.intro ?_ ?_ | intro _)) <;> try simp -implicitDefEqProofs (maxSteps := 1000000) (disch := first | exact dz0 | fail) only [vcR, vcT, simprocAttr, Ab.part, implies_true, forall_const, vcS, vcXAb26, Tryz.f47, e0,e1]))
  · simp only [h0, decide_false] at e0
    simp only [h1, decide_false] at e1
    rw [h] at hw
    have h2 : ((wd m 0 % 2 : Nat) : Int) = 0 := by omega
    (repeat' ((first | with_reducible (first | apply XR_cons | apply XR_consG | apply XR_nil | apply cF_pure (by assumption) | apply cF_ev (by assumption) | apply cF_own (by assumption)) | ((with_reducible apply cF_new (by assumption)); (first | rintro _ _ ⟨rfl, rfl⟩ | rintro _ _ ⟨_, _, rfl, rfl⟩)) | with_reducible (first | apply gRS (by with_unfolding_all rfl) | apply gR (by with_unfolding_all rfl) | apply gS (by with_unfolding_all rfl) | fail) | refine X_of _ ?_ | with_reducible (first | exact ⟨_, rfl⟩ | refine And.intro ?_ ?_ | intro _)) <;> try simp -implicitDefEqProofs (maxSteps := 1000000) (disch := first | exact dz0 | fail) only [vcR, vcT, simprocAttr, Ab.part, implies_true, forall_const, vcS, vcXAb26, Tryz.f47, e0,e1,hb,h2]))
theorem new_good (m : Nat) (hG : OddM m) : NewC Tryz.prog 47 [.agg (nat4 m)] (fun v H => v = .tup [.s (.p 0 0), .s (.v (.int .i64 0))] ∧ H = [⟨135, modS m false⟩]) := by
  have hw := wd_low_odd m
  have h1 := hG.odd
  have h0 := hG.gt
  have e0 : litsEq (lits 4 (wd m)) (lits 4 (wd 0)) = decide (m = 0) := litsEq_nat4 hG.lt (by decide)
  have e1 : litsEq (lits 4 (wd m)) (lits 4 (wd 1)) = decide (m = 1) := litsEq_nat4 hG.lt (by decide)
  have hb : bits .and .u64 ((wd m 0 : Nat) : Int) 1 = ((wd m 0 % 2 : Nat) : Int) := andOne _ (wd_lt m 0)
  simp only [show m ≠ 0 by omega, decide_false] at e0
  simp only [show m ≠ 1 by omega, decide_false] at e1
  rw [h1] at hw
  have h2 : ((wd m 0 % 2 : Nat) : Int) = 1 := by omega
  clear hG h0 h1
  (refine newC_of Tryz.func47 rfl (by simp only [List.length_cons, List.length_nil, List.map_cons, List.map_nil, List.nodup_cons, List.nodup_nil, List.mem_cons, Nat.reduceAdd, Nat.reduceEqDiff, or_false, not_false_eq_true, forall_eq_or_imp, forall_eq, or_self, Nat.reduceLT, Nat.reduceLeDiff, and_self, List.forall_mem_cons, List.not_mem_nil, false_implies, implies_true, and_true, true_and, vcOAb26]) fun w => ?_; simp only [List.length_cons, List.length_nil, Tryz.ntmps47, Nat.reduceAdd, Nat.reduceSub, List.replicate_succ, List.replicate_zero, List.cons_append, List.nil_append])
  (repeat' ((first | with_reducible (first | apply XR_cons | apply XR_consG | apply XR_nil | apply cF_pure (by assumption) | apply cF_ev (by assumption) | apply cF_own (by assumption)) | ((with_reducible apply cF_new (by assumption)); (first | rintro _ _ ⟨rfl, rfl⟩ | rintro _ _ ⟨_, _, rfl, rfl⟩)) | with_reducible (first | apply gRS (by with_unfolding_all rfl) | apply gR (by with_unfolding_all rfl) | apply gS (by with_unfolding_all rfl) | fail) | refine X_of _ ?_ | with_reducible (first | exact ⟨_, rfl⟩ | refine And.intro ?_ ?_ | intro _)) <;> try simp -implicitDefEqProofs (maxSteps := 1000000) (disch := first | exact dz0 | fail) only [vcR, vcT, simprocAttr, Ab.part, implies_true, forall_const, vcS, vcXAb26, Tryz.f47, e0,e1,hb,h2]))
  exact ⟨[1], _, _, ⟨rfl, rfl⟩, by decide, rfl, by simp only [List.length_cons, List.length_nil, List.map_cons, List.map_nil, List.nodup_cons, List.nodup_nil, List.mem_cons, Nat.reduceAdd, Nat.reduceEqDiff, or_false, not_false_eq_true, forall_eq_or_imp, forall_eq, or_self, Nat.reduceLT, Nat.reduceLeDiff, and_self, List.forall_mem_cons, List.not_mem_nil, false_implies, implies_true, and_true, true_and, vcOAb26], ⟨rfl, trivial⟩, by simp only [List.mem_singleton, forall_eq]; exact modS_ok⟩
/-! Tryz# Of any Mod -/
theorem M_e (k m : Nat) : EvC (modEvo 135) Tryz.prog 50 [.s (.v (.pointer (some ⟨k, 0, none⟩)))] (isMod 135 k m) (.agg (nat4 m)) :=
  OwnC.mod (args := []) (by simp only [List.length_cons, List.length_nil, List.map_cons, List.map_nil, List.nodup_cons, List.nodup_nil, List.mem_cons, Nat.reduceAdd, Nat.reduceEqDiff, or_false, not_false_eq_true, forall_eq_or_imp, forall_eq, or_self, Nat.reduceLT, Nat.reduceLeDiff, and_self, List.forall_mem_cons, List.not_mem_nil, false_implies, implies_true, and_true, true_and, vcOAb26]) fun hG b => ⟨b, by
    obtain ⟨d, i, s, h⟩ := modS_eq m b
    rw [h]
    exact M_o m d 0 i s⟩
theorem plus_e (k m x y : Nat) (hG : OddM m) (hx : x < 2 ^ 256) (hy : y < 2 ^ 256) : EvC (modEvo 135) Tryz.prog 73 [.s (.v (.pointer (some ⟨k, 0, none⟩))), .agg (nat4 x), .agg (nat4 y)] (isMod 135 k m) (.agg (nat4 ((x + y) % m))) :=
  OwnC.mod (by simp only [List.length_cons, List.length_nil, List.map_cons, List.map_nil, List.nodup_cons, List.nodup_nil, List.mem_cons, Nat.reduceAdd, Nat.reduceEqDiff, or_false, not_false_eq_true, forall_eq_or_imp, forall_eq, or_self, Nat.reduceLT, Nat.reduceLeDiff, and_self, List.forall_mem_cons, List.not_mem_nil, false_implies, implies_true, and_true, true_and, vcOAb26]) fun hG b => ⟨b, by
    obtain ⟨d, i, s, h⟩ := modS_eq m b
    rw [h]
    exact plus_o m d 0 i s x y _ hG.lt hG.pos hx hy rfl⟩
theorem minus_e (k m x y : Nat) (hG : OddM m) (hx : x < 2 ^ 256) (hy : y < 2 ^ 256) : EvC (modEvo 135) Tryz.prog 75 [.s (.v (.pointer (some ⟨k, 0, none⟩))), .agg (nat4 x), .agg (nat4 y)] (isMod 135 k m) (.agg (nat4 (msub m x y))) :=
  OwnC.mod (by simp only [List.length_cons, List.length_nil, List.map_cons, List.map_nil, List.nodup_cons, List.nodup_nil, List.mem_cons, Nat.reduceAdd, Nat.reduceEqDiff, or_false, not_false_eq_true, forall_eq_or_imp, forall_eq, or_self, Nat.reduceLT, Nat.reduceLeDiff, and_self, List.forall_mem_cons, List.not_mem_nil, false_implies, implies_true, and_true, true_and, vcOAb26]) fun hG b => ⟨b, by
    obtain ⟨d, i, s, h⟩ := modS_eq m b
    rw [h]
    exact minus_o m d 0 i s x y _ hG.lt hG.pos hx hy rfl⟩
theorem to_e (k m x : Nat) (hG : OddM m) (hx : x < 2 ^ 256) : EvC (modEvo 135) Tryz.prog 68 [.s (.v (.pointer (some ⟨k, 0, none⟩))), .agg (nat4 x)] (isMod 135 k m) (.agg (nat4 (img m x))) :=
  OwnC.mod (by simp only [List.length_cons, List.length_nil, List.map_cons, List.map_nil, List.nodup_cons, List.nodup_nil, List.mem_cons, Nat.reduceAdd, Nat.reduceEqDiff, or_false, not_false_eq_true, forall_eq_or_imp, forall_eq, or_self, Nat.reduceLT, Nat.reduceLeDiff, and_self, List.forall_mem_cons, List.not_mem_nil, false_implies, implies_true, and_true, true_and, vcOAb26]) fun _ b => ⟨true, to_o m b x hG hx⟩
theorem from_e (k m x : Nat) (hG : OddM m) (hx : x < 2 ^ 256) : EvC (modEvo 135) Tryz.prog 72 [.s (.v (.pointer (some ⟨k, 0, none⟩))), .agg (nat4 x)] (isMod 135 k m) (.agg (nat4 (mo m x))) :=
  OwnC.mod (by simp only [List.length_cons, List.length_nil, List.map_cons, List.map_nil, List.nodup_cons, List.nodup_nil, List.mem_cons, Nat.reduceAdd, Nat.reduceEqDiff, or_false, not_false_eq_true, forall_eq_or_imp, forall_eq, or_self, Nat.reduceLT, Nat.reduceLeDiff, and_self, List.forall_mem_cons, List.not_mem_nil, false_implies, implies_true, and_true, true_and, vcOAb26]) fun _ b => ⟨true, from_o m b x hG hx⟩
theorem mul_e (k m x y : Nat) (hG : OddM m) (hx : x < 2 ^ 256) (hy : y < 2 ^ 256) : EvC (modEvo 135) Tryz.prog 71 [.s (.v (.pointer (some ⟨k, 0, none⟩))), .agg (nat4 x), .agg (nat4 y)] (isMod 135 k m) (.agg (nat4 (mo m (x * y)))) :=
  OwnC.mod (by simp only [List.length_cons, List.length_nil, List.map_cons, List.map_nil, List.nodup_cons, List.nodup_nil, List.mem_cons, Nat.reduceAdd, Nat.reduceEqDiff, or_false, not_false_eq_true, forall_eq_or_imp, forall_eq, or_self, Nat.reduceLT, Nat.reduceLeDiff, and_self, List.forall_mem_cons, List.not_mem_nil, false_implies, implies_true, and_true, true_and, vcOAb26]) fun _ b => ⟨true, mul_o m b x y hG hx hy⟩
theorem times_e (k m x y : Nat) (hG : OddM m) (hx : x < 2 ^ 256) (hy : y < 2 ^ 256) : EvC (modEvo 135) Tryz.prog 53 [.s (.v (.pointer (some ⟨k, 0, none⟩))), .agg (nat4 x), .agg (nat4 y)] (isMod 135 k m) (.agg (nat4 (x * y % m))) := by
  have h1 := to_e k m x hG hx
  have h2 := mul_e k m (img m x) y hG hG.img_lt hy
  rw [mo_times hG] at h2
  (refine evC_of Tryz.func53 rfl (by simp only [List.length_cons, List.length_nil, List.map_cons, List.map_nil, List.nodup_cons, List.nodup_nil, List.mem_cons, Nat.reduceAdd, Nat.reduceEqDiff, or_false, not_false_eq_true, forall_eq_or_imp, forall_eq, or_self, Nat.reduceLT, Nat.reduceLeDiff, and_self, List.forall_mem_cons, List.not_mem_nil, false_implies, implies_true, and_true, true_and, vcOAb26]) (by simp only [List.length_cons, List.length_nil, List.map_cons, List.map_nil, List.nodup_cons, List.nodup_nil, List.mem_cons, Nat.reduceAdd, Nat.reduceEqDiff, or_false, not_false_eq_true, forall_eq_or_imp, forall_eq, or_self, Nat.reduceLT, Nat.reduceLeDiff, and_self, List.forall_mem_cons, List.not_mem_nil, false_implies, implies_true, and_true, true_and, vcOAb26]) fun B w hpre => ?_; simp only [List.length_cons, List.length_nil, Tryz.ntmps53, Nat.reduceAdd, Nat.reduceSub, List.replicate_succ, List.replicate_zero, List.cons_append, List.nil_append])
  have hM : Kn (ctxE Tryz.prog (modEvo 135) w B) (isMod 135 k m) := Kn.entry (isMod_stays _ k m) hpre
  clear hpre hG hx hy
  (repeat' ((first | with_reducible (first | apply XQ_cons | apply XQ_consG | apply XQ_nil | apply XR_cons | apply XR_consG | apply XR_nil | apply cF_pure (by assumption) | apply cV_pure (by assumption) | apply cF_ev (by assumption) | apply cV_ev (by assumption) | apply cF_own (by assumption) | apply cV_own (by assumption) | apply cF_ev (mul_e _ _ _ _ bd0 bd0 bd0) | apply cV_ev (mul_e _ _ _ _ bd0 bd0 bd0) | apply cF_ev (to_e _ _ _ bd0 bd0) | apply cV_ev (to_e _ _ _ bd0 bd0)) | ((with_reducible apply cF_new (by assumption)); (first | rintro _ _ ⟨rfl, rfl⟩ | rintro _ _ ⟨_, _, rfl, rfl⟩)) | (with_reducible apply X_drawC (id := 1) 6; (next => (kernel_rfl)); (next => (kernel_rfl))) | refine X_of _ ?_ | with_reducible (first | exact ⟨_, rfl⟩ | refine And.intro ?_ ?_ | intro _)) <;> try simp -implicitDefEqProofs (maxSteps := 1000000) (disch := first | exact dz0 | fail) only [vcR, vcT, simprocAttr, Ab.part, implies_true, forall_const, vcS, vcXAb26, Tryz.f53]))
  all_goals trace_state
def trM6bn49x1 : Tr := (.cons 6 (.cons 7 (.cons 8 (.cons 9 .nil .nil) .nil) .nil) (.cons 7 (.cons 6 (.cons 8 (.cons 9 .nil .nil) .nil) .nil) .nil))
theorem pow_e (k m a n : Nat) (hG : OddM m) (ha : a < 2 ^ 256) (hn : n < 2 ^ 256) : EvC (modEvo 135) Tryz.prog 49 [.s (.v (.pointer (some ⟨k, 0, none⟩))), .agg (nat4 a), .agg (nat4 n)] (isMod 135 k m) (.agg (nat4 (a ^ n % m))) := by
  have h1 := to_e k m 1 hG (by decide)
  have h2 := to_e k m a hG ha
  have hb : blen n ≤ 256 := blen_le n 256 hn
  have h3 := from_e k m (gimg m a n (blen n)) hG (gimg_lt hG a n _)
  rw [gimg_end hG] at h3
  rw [← gimg_zero m a n] at h1
  rw [← pimg_zero m a] at h2
  obtain ⟨r, hr⟩ : ∃ r, a ^ n % m = r := ⟨_, rfl⟩
  rw [hr] at h3
  rw [hr]
  clear hr
  (refine evC_of Tryz.func49 rfl (by simp only [List.length_cons, List.length_nil, List.map_cons, List.map_nil, List.nodup_cons, List.nodup_nil, List.mem_cons, Nat.reduceAdd, Nat.reduceEqDiff, or_false, not_false_eq_true, forall_eq_or_imp, forall_eq, or_self, Nat.reduceLT, Nat.reduceLeDiff, and_self, List.forall_mem_cons, List.not_mem_nil, false_implies, implies_true, and_true, true_and, vcOAb26]) (by simp only [List.length_cons, List.length_nil, List.map_cons, List.map_nil, List.nodup_cons, List.nodup_nil, List.mem_cons, Nat.reduceAdd, Nat.reduceEqDiff, or_false, not_false_eq_true, forall_eq_or_imp, forall_eq, or_self, Nat.reduceLT, Nat.reduceLeDiff, and_self, List.forall_mem_cons, List.not_mem_nil, false_implies, implies_true, and_true, true_and, vcOAb26]) fun B w hpre => ?_; simp only [List.length_cons, List.length_nil, Tryz.ntmps49, Nat.reduceAdd, Nat.reduceSub, List.replicate_succ, List.replicate_zero, List.cons_append, List.nil_append])
  have hM : Kn (ctxE Tryz.prog (modEvo 135) w B) (isMod 135 k m) := Kn.entry (isMod_stays _ k m) hpre
  clear hpre
  (repeat' ((first | with_reducible (first | apply XR_cons | apply XR_consG | apply XR_nil | apply XM_cons | apply XM_consG | apply XM_nil | apply cF_pure (by assumption) | apply cM_pure (by assumption) | apply cF_ev (by assumption) | apply cM_ev (by assumption) | apply cF_pure (bit_n _ _ bd0) | apply cM_pure (bit_n _ _ bd0) | apply cF_pure (len_c _ bd0) | apply cM_pure (len_c _ bd0) | apply cF_ev (from_e _ _ _ bd0 bd0) | apply cM_ev (from_e _ _ _ bd0 bd0) | apply cF_ev (mul_e _ _ _ _ bd0 bd0 bd0) | apply cM_ev (mul_e _ _ _ _ bd0 bd0 bd0) | apply cF_ev (to_e _ _ _ bd0 bd0) | apply cM_ev (to_e _ _ _ bd0 bd0)) | (with_reducible apply X_drawM (id := 1) 6 [] trM6bn49x1; (next => (kernel_rfl)); (next => (kernel_rfl))) | refine X_of _ ?_ | with_reducible (first | exact ⟨_, rfl⟩ | refine And.intro ?_ ?_ | intro _)) <;> try simp -implicitDefEqProofs (maxSteps := 1000000) (disch := first | exact dz0 | fail) only [vcR, vcT, simprocAttr, Ab.part, implies_true, forall_const, vcS, vcXAb26, Tryz.f49, trM6bn49x1]))
  rotate_left
  (refine X_permL [0, 1, 2, 4, 3] rfl rfl (by decide) (by decide) (by simp only [List.length_cons, List.length_nil, List.map_cons, List.map_nil, List.nodup_cons, List.nodup_nil, List.mem_cons, Nat.reduceAdd, Nat.reduceEqDiff, or_false, not_false_eq_true, forall_eq_or_imp, forall_eq, or_self, Nat.reduceLT, Nat.reduceLeDiff, and_self, List.forall_mem_cons, List.not_mem_nil, false_implies, implies_true, and_true, true_and, vcOAb26]) ?_; simp only [ren_v, ren_p, ren_sl, ren_undef, ren_tupE, ren_tup, avren_v, avren_p, avren_nat4, ren_nat4, lk_def, pickH_nil, pickH_cons, consH_some, List.map_cons, List.map_nil, List.getD_cons_zero, List.getD_cons_succ, List.getElem?_cons_zero, List.getElem?_cons_succ])
  all_goals
    refine X_loop (ι := Nat) (fun i => i ≤ blen n) (fun i => blen n - i) [9, 18, 19, 20, 21, 22, 23, 24, 25, 26, 27, 28, 29, 30, 31, 32, 33]
      (fun i => [(18, .s (.v (.int .i64 (i : Nat))))])
      (fun i => [(3, nat4 (gimg m a n i)), (4, nat4 (pimg m a i))]) 0 (shape_of fun i => ?_) (by decide) ?_ ?_
    · simp only [List.length_cons, List.length_nil, List.map_cons, List.map_nil, List.nodup_cons, List.nodup_nil, List.mem_cons, Nat.reduceAdd, Nat.reduceEqDiff, or_false, not_false_eq_true, forall_eq_or_imp, forall_eq, or_self, Nat.reduceLT, Nat.reduceLeDiff, and_self, List.forall_mem_cons, List.not_mem_nil, false_implies, implies_true, and_true, true_and, vcOAb26]
    · simp -implicitDefEqProofs (maxSteps := 1000000) (disch := first | exact dz0 | fail) only [vcR, vcT, simprocAttr, Ab.part, implies_true, forall_const, vcS, vcXAb26, Tryz.f49, again_eq]
      try simp
    · intro i us hk
      (repeat (refine X_of _ ?_; simp -implicitDefEqProofs (maxSteps := 1000000) (disch := first | exact dz0 | fail) only [vcR, vcT, simprocAttr, Ab.part, implies_true, forall_const, vcS, vcXAb26, Tryz.f49]))
      refine ⟨fun h => ?_, fun h => ?_⟩
      · have hs := gimg_step hG a n i
        have hp := pimg_step hG a i
        have m1 := mul_e k m (gimg m a n i) (pimg m a i) hG (gimg_lt hG a n i) (pimg_lt hG a i)
        have m2 := mul_e k m (pimg m a i) (pimg m a i) hG (pimg_lt hG a i) (pimg_lt hG a i)
        rw [hp] at m2
        obtain ⟨g, hg⟩ : ∃ g, gimg m a n i = g := ⟨_, rfl⟩
        obtain ⟨g', hg'⟩ : ∃ g, gimg m a n (i + 1) = g := ⟨_, rfl⟩
        obtain ⟨p, hp1⟩ : ∃ g, pimg m a i = g := ⟨_, rfl⟩
        obtain ⟨p', hp1'⟩ : ∃ g, pimg m a (i + 1) = g := ⟨_, rfl⟩
        rw [hg, hp1] at m1
        rw [hp1, hp1'] at m2
        rw [hg, hg', hp1] at hs
        rw [hg, hp1]
        rcases hs with ⟨h3, h4⟩ | ⟨h3, h4⟩
        · have h5 : ((n / 2 ^ i % 2 : Nat) : Int) = 0 := by omega
          clear h1 h2 h3 m1 hp
          (repeat' ((first | with_reducible (first | apply XR_cons | apply XR_consG | apply XR_nil | apply XM_cons | apply XM_consG | apply XM_nil | apply cF_pure (by assumption) | apply cM_pure (by assumption) | apply cF_ev (by assumption) | apply cM_ev (by assumption) | apply cF_pure (bit_n _ _ bd0) | apply cM_pure (bit_n _ _ bd0) | apply cF_pure (len_c _ bd0) | apply cM_pure (len_c _ bd0) | apply cF_ev (from_e _ _ _ bd0 bd0) | apply cM_ev (from_e _ _ _ bd0 bd0) | apply cF_ev (mul_e _ _ _ _ bd0 bd0 bd0) | apply cM_ev (mul_e _ _ _ _ bd0 bd0 bd0) | apply cF_ev (to_e _ _ _ bd0 bd0) | apply cM_ev (to_e _ _ _ bd0 bd0)) | (with_reducible apply X_drawM (id := 1) 6 [] trM6bn49x1; (next => (kernel_rfl)); (next => (kernel_rfl))) | refine X_of _ ?_ | with_reducible (first | exact ⟨_, rfl⟩ | refine And.intro ?_ ?_ | intro _)) <;> try simp -implicitDefEqProofs (maxSteps := 1000000) (disch := first | exact dz0 | fail) only [vcR, vcT, simprocAttr, Ab.part, implies_true, forall_const, vcS, vcXAb26, Tryz.f49, h5, trM6bn49x1]))
          refine ⟨i + 1, by omega, ?_⟩
          simp -implicitDefEqProofs (maxSteps := 1000000) (disch := first | exact dz0 | fail) only [vcR, vcT, simprocAttr, Ab.part, implies_true, forall_const, vcS, vcXAb26, Tryz.f49, again_eq,hg',hp1',h4]
          try simp
        · have h5 : ((n / 2 ^ i % 2 : Nat) : Int) = 1 := by omega
          rw [h4] at m1
          clear h1 h2 h3 hp
          (repeat' ((first | with_reducible (first | apply XR_cons | apply XR_consG | apply XR_nil | apply XM_cons | apply XM_consG | apply XM_nil | apply cF_pure (by assumption) | apply cM_pure (by assumption) | apply cF_ev (by assumption) | apply cM_ev (by assumption) | apply cF_pure (bit_n _ _ bd0) | apply cM_pure (bit_n _ _ bd0) | apply cF_pure (len_c _ bd0) | apply cM_pure (len_c _ bd0) | apply cF_ev (from_e _ _ _ bd0 bd0) | apply cM_ev (from_e _ _ _ bd0 bd0) | apply cF_ev (mul_e _ _ _ _ bd0 bd0 bd0) | apply cM_ev (mul_e _ _ _ _ bd0 bd0 bd0) | apply cF_ev (to_e _ _ _ bd0 bd0) | apply cM_ev (to_e _ _ _ bd0 bd0)) | (with_reducible apply X_drawM (id := 1) 6 [] trM6bn49x1; (next => (kernel_rfl)); (next => (kernel_rfl))) | refine X_of _ ?_ | with_reducible (first | exact ⟨_, rfl⟩ | refine And.intro ?_ ?_ | intro _)) <;> try simp -implicitDefEqProofs (maxSteps := 1000000) (disch := first | exact dz0 | fail) only [vcR, vcT, simprocAttr, Ab.part, implies_true, forall_const, vcS, vcXAb26, Tryz.f49, h5, trM6bn49x1]))
          refine ⟨i + 1, by omega, ?_⟩
          simp -implicitDefEqProofs (maxSteps := 1000000) (disch := first | exact dz0 | fail) only [vcR, vcT, simprocAttr, Ab.part, implies_true, forall_const, vcS, vcXAb26, Tryz.f49, again_eq,hg',hp1']
          try simp
      · have hk2 : i = blen n := by omega
        subst hk2
        clear h1 h2
        (repeat' ((first | with_reducible (first | apply XR_cons | apply XR_consG | apply XR_nil | apply XM_cons | apply XM_consG | apply XM_nil | apply cF_pure (by assumption) | apply cM_pure (by assumption) | apply cF_ev (by assumption) | apply cM_ev (by assumption) | apply cF_pure (bit_n _ _ bd0) | apply cM_pure (bit_n _ _ bd0) | apply cF_pure (len_c _ bd0) | apply cM_pure (len_c _ bd0) | apply cF_ev (from_e _ _ _ bd0 bd0) | apply cM_ev (from_e _ _ _ bd0 bd0) | apply cF_ev (mul_e _ _ _ _ bd0 bd0 bd0) | apply cM_ev (mul_e _ _ _ _ bd0 bd0 bd0) | apply cF_ev (to_e _ _ _ bd0 bd0) | apply cM_ev (to_e _ _ _ bd0 bd0)) | (with_reducible apply X_drawM (id := 1) 6 [] trM6bn49x1; (next => (kernel_rfl)); (next => (kernel_rfl))) | refine X_of _ ?_ | with_reducible (first | exact ⟨_, rfl⟩ | refine And.intro ?_ ?_ | intro _)) <;> try simp -implicitDefEqProofs (maxSteps := 1000000) (disch := first | exact dz0 | fail) only [vcR, vcT, simprocAttr, Ab.part, implies_true, forall_const, vcS, vcXAb26, Tryz.f49, trM6bn49x1]))
theorem OddM.msub_lt {m x y : Nat} (h : OddM m) : msub m x y < 2 ^ 256 := h.mod_lt
def oneK : Nat → World → Prop := natsAt (modEvo 135) (some ⟨2, 0, none⟩) 1 fun _ => 1
theorem oneK_stays : Stays (modEvo 135) oneK := natsAt_stays _ _ _ _
theorem Kn.one1 {Γ : Ctx} (h : Kn Γ oneK) {K : TV → HE → Prop} : xext Γ (some true) 4 ⟨2, 0, none⟩ K = K (.agg (nat4 1)) .none := Kn.gnat h
def memB (P Q a : Nat) : Bool := decide (a ≠ 0) && decide (a < P) && decide (a ^ Q % P = 1)
abbrev GK (k kx kq P Q G : Nat) : Nat → World → Prop := isGrp 135 k kx kq P Q G
theorem gQ_e (k kx kq P Q G : Nat) : EvC (modEvo 135) Tryz.prog 28 [.s (.v (.pointer (some ⟨k, 0, none⟩)))] (GK k kx kq P Q G) (.s (.v (.pointer (some ⟨kq, 0, none⟩)))) := by
  (refine evC_of Tryz.func28 rfl (by simp only [List.length_cons, List.length_nil, List.map_cons, List.map_nil, List.nodup_cons, List.nodup_nil, List.mem_cons, Nat.reduceAdd, Nat.reduceEqDiff, or_false, not_false_eq_true, forall_eq_or_imp, forall_eq, or_self, Nat.reduceLT, Nat.reduceLeDiff, and_self, List.forall_mem_cons, List.not_mem_nil, false_implies, implies_true, and_true, true_and, vcOGb]) (by simp only [List.length_cons, List.length_nil, List.map_cons, List.map_nil, List.nodup_cons, List.nodup_nil, List.mem_cons, Nat.reduceAdd, Nat.reduceEqDiff, or_false, not_false_eq_true, forall_eq_or_imp, forall_eq, or_self, Nat.reduceLT, Nat.reduceLeDiff, and_self, List.forall_mem_cons, List.not_mem_nil, false_implies, implies_true, and_true, true_and, vcOGb]) fun B w hpre => ?_; simp only [List.length_cons, List.length_nil, Tryz.ntmps28, Nat.reduceAdd, Nat.reduceSub, List.replicate_succ, List.replicate_zero, List.cons_append, List.nil_append])
  have h1 := Kn.entry (P := Tryz.prog) (isGrp_stays 135 k kx kq P Q G) hpre
  have hq : ∀ {K : TV → HE → Prop} {q : Nat}, xext (ctxE Tryz.prog (modEvo 135) w B) (some false) q ⟨k, 13, none⟩ K = K (.s (.v (.pointer (some ⟨kq, 0, none⟩)))) .none := fun {K} => h1.gq
  clear hpre
  (repeat' ((first | with_reducible (first | apply cF_pure2 (by assumption) | apply cF_ev2 (by assumption)) | refine X_of _ ?_ | with_reducible (first | exact ⟨_, rfl⟩ | refine And.intro ?_ ?_ | intro _)) <;> try simp -implicitDefEqProofs (maxSteps := 1000000) (disch := first | exact dz2 | fail) only [vcR, vcT, simprocAttr, Ab.part, implies_true, forall_const, vcS, vcXGb, Tryz.f28, addr_add,hq]))
theorem gBase_e (k kx kq P Q G n : Nat) (hG : G < 2 ^ 256) (hn : n < 2 ^ 256) : EvC (modEvo 135) Tryz.prog 30 [.s (.v (.pointer (some ⟨k, 0, none⟩))), .agg (nat4 n)] (GK k kx kq P Q G) (.agg (nat4 (G ^ n % P))) := by
  (refine evC_of Tryz.func30 rfl (by simp only [List.length_cons, List.length_nil, List.map_cons, List.map_nil, List.nodup_cons, List.nodup_nil, List.mem_cons, Nat.reduceAdd, Nat.reduceEqDiff, or_false, not_false_eq_true, forall_eq_or_imp, forall_eq, or_self, Nat.reduceLT, Nat.reduceLeDiff, and_self, List.forall_mem_cons, List.not_mem_nil, false_implies, implies_true, and_true, true_and, vcOGb]) (by simp only [List.length_cons, List.length_nil, List.map_cons, List.map_nil, List.nodup_cons, List.nodup_nil, List.mem_cons, Nat.reduceAdd, Nat.reduceEqDiff, or_false, not_false_eq_true, forall_eq_or_imp, forall_eq, or_self, Nat.reduceLT, Nat.reduceLeDiff, and_self, List.forall_mem_cons, List.not_mem_nil, false_implies, implies_true, and_true, true_and, vcOGb]) fun B w hpre => ?_; simp only [List.length_cons, List.length_nil, Tryz.ntmps30, Nat.reduceAdd, Nat.reduceSub, List.replicate_succ, List.replicate_zero, List.cons_append, List.nil_append])
  have h1 := Kn.entry (P := Tryz.prog) (isGrp_stays 135 k kx kq P Q G) hpre
  have hm := h1.gmx
  obtain ⟨hP, hQ⟩ := h1.gOdd
  have hx : ∀ {K : TV → HE → Prop} {q : Nat}, xext (ctxE Tryz.prog (modEvo 135) w B) (some false) q ⟨k, 12, none⟩ K = K (.s (.v (.pointer (some ⟨kx, 0, none⟩)))) .none := fun {K} => h1.gx
  have hg : ∀ {K : TV → HE → Prop}, xext (ctxE Tryz.prog (modEvo 135) w B) (some true) 4 ⟨k, 8, none⟩ K = K (.agg (nat4 G)) .none := fun {K} => h1.gG
  clear hpre
  have hpw := pow_e kx P G n hP hG hn
  obtain ⟨r, hr⟩ : ∃ r, G ^ n % P = r := ⟨_, rfl⟩
  rw [hr] at hpw ⊢
  (repeat' ((first | with_reducible (first | apply XQ_cons | apply XQ_consG | apply XQ_nil | apply XR_cons | apply XR_consG | apply XR_nil | apply cF_pure2 (by assumption) | apply cV_pure2 (by assumption) | apply cF_ev2 (by assumption) | apply cV_ev2 (by assumption)) | (with_reducible apply X_drawC (id := 1) 11; (next => (kernel_rfl)); (next => (kernel_rfl))) | refine X_of _ ?_ | with_reducible (first | exact ⟨_, rfl⟩ | refine And.intro ?_ ?_ | intro _)) <;> try simp -implicitDefEqProofs (maxSteps := 1000000) (disch := first | exact dz2 | fail) only [vcR, vcT, simprocAttr, Ab.part, implies_true, forall_const, vcS, vcXGb, Tryz.f30, addr_add,hx,hg]))
theorem gMember_e (k kx kq P Q G a : Nat) (hP2 : P < 2 ^ 256) (hQ2 : Q < 2 ^ 256) (ha : a < 2 ^ 256) :
    EvC (modEvo 135) Tryz.prog 59 [.s (.v (.pointer (some ⟨k, 0, none⟩))), .agg (nat4 a)] (fun B w => GK k kx kq P Q G B w ∧ oneK B w) (.s (.v (.bool (memB P Q a)))) := by
  (refine evC_of Tryz.func59 rfl (by simp only [List.length_cons, List.length_nil, List.map_cons, List.map_nil, List.nodup_cons, List.nodup_nil, List.mem_cons, Nat.reduceAdd, Nat.reduceEqDiff, or_false, not_false_eq_true, forall_eq_or_imp, forall_eq, or_self, Nat.reduceLT, Nat.reduceLeDiff, and_self, List.forall_mem_cons, List.not_mem_nil, false_implies, implies_true, and_true, true_and, vcOGb]) (by simp only [List.length_cons, List.length_nil, List.map_cons, List.map_nil, List.nodup_cons, List.nodup_nil, List.mem_cons, Nat.reduceAdd, Nat.reduceEqDiff, or_false, not_false_eq_true, forall_eq_or_imp, forall_eq, or_self, Nat.reduceLT, Nat.reduceLeDiff, and_self, List.forall_mem_cons, List.not_mem_nil, false_implies, implies_true, and_true, true_and, vcOGb]) fun B w hpre => ?_; simp only [List.length_cons, List.length_nil, Tryz.ntmps59, Nat.reduceAdd, Nat.reduceSub, List.replicate_succ, List.replicate_zero, List.cons_append, List.nil_append])
  have h0 := Kn.entry (P := Tryz.prog) ((isGrp_stays 135 k kx kq P Q G).and oneK_stays) hpre
  have h1 := h0.left
  have h2 := h0.right
  have hm := h1.gmx
  obtain ⟨hP, hQ⟩ := h1.gOdd
  have hx : ∀ {K : TV → HE → Prop} {q : Nat}, xext (ctxE Tryz.prog (modEvo 135) w B) (some false) q ⟨k, 12, none⟩ K = K (.s (.v (.pointer (some ⟨kx, 0, none⟩)))) .none := fun {K} => h1.gx
  have hp : ∀ {K : TV → HE → Prop}, xext (ctxE Tryz.prog (modEvo 135) w B) (some true) 4 ⟨k, 0, none⟩ K = K (.agg (nat4 P)) .none := fun {K} => h1.gP
  have hq : ∀ {K : TV → HE → Prop}, xext (ctxE Tryz.prog (modEvo 135) w B) (some true) 4 ⟨k, 4, none⟩ K = K (.agg (nat4 Q)) .none := fun {K} => h1.gQ
  have h11 : ∀ {K : TV → HE → Prop}, xext (ctxE Tryz.prog (modEvo 135) w B) (some true) 4 ⟨2, 0, none⟩ K = K (.agg (nat4 1)) .none := fun {K} => Kn.one1 h2
  clear hpre h0
  have hpw := pow_e kx P a Q hP ha hQ2
  unfold memB
  obtain ⟨r, hr⟩ : ∃ r, a ^ Q % P = r := ⟨_, rfl⟩
  have hr2 : r < 2 ^ 256 := by rw [← hr]; exact Nat.lt_of_lt_of_le (Nat.mod_lt _ hP.pos) (Nat.le_of_lt hP2)
  rw [hr] at hpw ⊢
  clear hr
  by_cases ha0 : a = 0
  · subst ha0
    (repeat' ((first | with_reducible (first | apply XQ_cons | apply XQ_consG | apply XQ_nil | apply XR_cons | apply XR_consG | apply XR_nil | apply cF_pure2 (by assumption) | apply cV_pure2 (by assumption) | apply cF_ev2 (by assumption) | apply cV_ev2 (by assumption) | apply cF_pure2 (cmp_c _ _ bd2 bd2) | apply cV_pure2 (cmp_c _ _ bd2 bd2)) | (with_reducible apply X_drawC (id := 1) 29; (next => (kernel_rfl)); (next => (kernel_rfl))) | refine X_of _ ?_ | with_reducible (first | exact ⟨_, rfl⟩ | refine And.intro ?_ ?_ | intro _)) <;> try simp -implicitDefEqProofs (maxSteps := 1000000) (disch := first | exact dz2 | fail) only [vcR, vcT, simprocAttr, Ab.part, implies_true, forall_const, vcS, vcXGb, Tryz.f59, addr_add,hx,hp,hq,h11]))
    rfl
  · have hd0 : decide (a = 0) = false := decide_eq_false ha0
    have hd1 : decide (a ≠ 0) = true := decide_eq_true ha0
    by_cases haP : a < P
    · have hs := sg_lt0 haP
      have hdP : decide (a < P) = true := decide_eq_true haP
      rw [hd1, hdP]
      clear hd1 hdP ha0 haP
      (repeat' ((first | with_reducible (first | apply XQ_cons | apply XQ_consG | apply XQ_nil | apply XR_cons | apply XR_consG | apply XR_nil | apply cF_pure2 (by assumption) | apply cV_pure2 (by assumption) | apply cF_ev2 (by assumption) | apply cV_ev2 (by assumption) | apply cF_pure2 (cmp_c _ _ bd2 bd2) | apply cV_pure2 (cmp_c _ _ bd2 bd2)) | (with_reducible apply X_drawC (id := 1) 29; (next => (kernel_rfl)); (next => (kernel_rfl))) | refine X_of _ ?_ | with_reducible (first | exact ⟨_, rfl⟩ | refine And.intro ?_ ?_ | intro _)) <;> try simp -implicitDefEqProofs (maxSteps := 1000000) (disch := first | exact dz2 | fail) only [vcR, vcT, simprocAttr, Ab.part, implies_true, forall_const, vcS, vcXGb, Tryz.f59, addr_add,hx,hp,hq,h11,hd0,hs]))
      simp
    · have hs : ¬ sg a P < 0 := by have := sg_nonneg (Nat.le_of_not_lt haP); omega
      have hdP : decide (a < P) = false := decide_eq_false haP
      rw [hd1, hdP]
      clear hd1 hdP ha0 haP
      (repeat' ((first | with_reducible (first | apply XQ_cons | apply XQ_consG | apply XQ_nil | apply XR_cons | apply XR_consG | apply XR_nil | apply cF_pure2 (by assumption) | apply cV_pure2 (by assumption) | apply cF_ev2 (by assumption) | apply cV_ev2 (by assumption) | apply cF_pure2 (cmp_c _ _ bd2 bd2) | apply cV_pure2 (cmp_c _ _ bd2 bd2)) | (with_reducible apply X_drawC (id := 1) 29; (next => (kernel_rfl)); (next => (kernel_rfl))) | refine X_of _ ?_ | with_reducible (first | exact ⟨_, rfl⟩ | refine And.intro ?_ ?_ | intro _)) <;> try simp -implicitDefEqProofs (maxSteps := 1000000) (disch := first | exact dz2 | fail) only [vcR, vcT, simprocAttr, Ab.part, implies_true, forall_const, vcS, vcXGb, Tryz.f59, addr_add,hx,hp,hq,h11,hd0,hs]))
      simp
def allM (P Q n : Nat) (a : Nat → Nat) : Bool := (List.range n).all fun i => memB P Q (a i)
theorem allM_iff {P Q n : Nat} {a : Nat → Nat} : allM P Q n a = true ↔ ∀ i, i < n → memB P Q (a i) = true := by simp [allM]
theorem allM_not {P Q n : Nat} {a : Nat → Nat} (h : allM P Q n a = false) : ∃ i, i < n ∧ memB P Q (a i) = false := by
  simpa [allM] using h
def ixOf (P Q n : Nat) (a : Nat → Nat) (r : Int) : Prop := (∃ i, i < n ∧ memB P Q (a i) = false ∧ (∀ j, j < i → memB P Q (a j) = true) ∧ r = (i : Int)) ∨ ((∀ j, j < n → memB P Q (a j) = true) ∧ r = -1)
theorem ixOf_ex (P Q n : Nat) (a : Nat → Nat) : ∃ r, ixOf P Q n a r ∧ decide (r ≥ 0) = !allM P Q n a := by
  cases h : allM P Q n a with
  | true => exact ⟨-1, .inr ⟨allM_iff.1 h, rfl⟩, rfl⟩
  | false =>
    have hf : ∀ n, (∃ i, i < n ∧ memB P Q (a i) = false) → ∃ i, i < n ∧ memB P Q (a i) = false ∧ ∀ j, j < i → memB P Q (a j) = true := by
      intro n
      induction n with
      | zero => rintro ⟨i, hi, _⟩; omega
      | succ n ih =>
        rintro ⟨i, hi, h1⟩
        by_cases h2 : ∃ i, i < n ∧ memB P Q (a i) = false
        · obtain ⟨i, h3, h4⟩ := ih h2
          exact ⟨i, by omega, h4⟩
        · have h3 : ∀ j, j < n → memB P Q (a j) = true := fun j hj => by
            cases h4 : memB P Q (a j) with
            | true => rfl
            | false => exact absurd ⟨j, hj, h4⟩ h2
          by_cases hin : i < n
          · exact absurd ⟨i, hin, h1⟩ h2
          · have : i = n := by omega
            subst this
            exact ⟨i, by omega, h1, h3⟩
    obtain ⟨i, h1, h2, h3⟩ := hf n (allM_not h)
    exact ⟨(i : Int), .inl ⟨i, h1, h2, h3, rfl⟩, by simp⟩
def mulS (P : Nat) (a b : Nat → Nat) : Nat → Nat
  | 0 => 1
  | n + 1 => mulS P a b n * (a n ^ b n % P) % P
theorem mulS_lt {P : Nat} (h : OddM P) (a b : Nat → Nat) : ∀ n, mulS P a b n < 2 ^ 256
  | 0 => by show 1 < 2 ^ 256; decide
  | n + 1 => h.mod_lt
def muE (P Q n m : Nat) (a : Nat → Nat) : Int := if n ≠ m ∨ 40 < n then 1 else if allM P Q n a then 0 else 22
def muV (P Q n m : Nat) (a b : Nat → Nat) : Nat := if muE P Q n m a = 0 then mulS P a b n else 0
theorem gm1_e (j k kx kq P Q G a : Nat) (hP2 : P < 2 ^ 256) (hQ2 : Q < 2 ^ 256) (ha : a < 2 ^ 256) :
    EvC (modEvo 135) Tryz.prog 58 [.agg (nat4 a), .s (.v (.pointer (some ⟨j, 0, none⟩)))] (fun B w => (GK k kx kq P Q G B w ∧ oneK B w) ∧ cellAt (modEvo 135) j (.pointer (some ⟨k, 0, none⟩)) B w) (.s (.v (.bool (!memB P Q a)))) := by
  (refine evC_of Tryz.func58 rfl (by simp only [List.length_cons, List.length_nil, List.map_cons, List.map_nil, List.nodup_cons, List.nodup_nil, List.mem_cons, Nat.reduceAdd, Nat.reduceEqDiff, or_false, not_false_eq_true, forall_eq_or_imp, forall_eq, or_self, Nat.reduceLT, Nat.reduceLeDiff, and_self, List.forall_mem_cons, List.not_mem_nil, false_implies, implies_true, and_true, true_and, vcOGb]) (by simp only [List.length_cons, List.length_nil, List.map_cons, List.map_nil, List.nodup_cons, List.nodup_nil, List.mem_cons, Nat.reduceAdd, Nat.reduceEqDiff, or_false, not_false_eq_true, forall_eq_or_imp, forall_eq, or_self, Nat.reduceLT, Nat.reduceLeDiff, and_self, List.forall_mem_cons, List.not_mem_nil, false_implies, implies_true, and_true, true_and, vcOGb]) fun B w hpre => ?_; simp only [List.length_cons, List.length_nil, Tryz.ntmps58, Nat.reduceAdd, Nat.reduceSub, List.replicate_succ, List.replicate_zero, List.cons_append, List.nil_append])
  have h0 := Kn.entry (P := Tryz.prog) (((isGrp_stays 135 k kx kq P Q G).and oneK_stays).and (cellAt_stays _ j _)) hpre
  have h1 := h0.left
  have h2 := h0.right
  have hj : ∀ {K : TV → HE → Prop} {q : Nat}, xext (ctxE Tryz.prog (modEvo 135) w B) (some false) q ⟨j, 0, none⟩ K = K (.s (.v (.pointer (some ⟨k, 0, none⟩)))) .none := fun {K} => h2.cell1
  have hm := gMember_e k kx kq P Q G a hP2 hQ2 ha
  clear hpre h0 h2
  (repeat' ((first | with_reducible (first | apply cF_pure2 (by assumption) | apply cF_ev2 (by assumption)) | refine X_of _ ?_ | with_reducible (first | exact ⟨_, rfl⟩ | refine And.intro ?_ ?_ | intro _)) <;> try simp -implicitDefEqProofs (maxSteps := 1000000) (disch := first | exact dz2 | fail) only [vcR, vcT, simprocAttr, Ab.part, implies_true, forall_const, vcS, vcXGb, Tryz.f58, addr_add,hj]))
theorem gix_e (x : Option Addr) (n c : Nat) (a : Nat → Nat) (j k kx kq P Q G : Nat) (r : Int) (hr : ixOf P Q n a r) (hP2 : P < 2 ^ 256) (hQ2 : Q < 2 ^ 256) (ha : ∀ i, a i < 2 ^ 256) (hn : n < 9223372036854775808) :
    EvC (modEvo 135) Tryz.prog 74 [.s (.v (.slice x n c)), .s (.v (.func (.func 58) #[] #[.pointer (some ⟨j, 0, none⟩)]))]
      (fun B w => natsAt (modEvo 135) x n a B w ∧ (GK k kx kq P Q G B w ∧ oneK B w) ∧ cellAt (modEvo 135) j (.pointer (some ⟨k, 0, none⟩)) B w) (.s (.v (.int .i64 r))) := by
  (refine evC_of Tryz.func74 rfl (by simp only [List.length_cons, List.length_nil, List.map_cons, List.map_nil, List.nodup_cons, List.nodup_nil, List.mem_cons, Nat.reduceAdd, Nat.reduceEqDiff, or_false, not_false_eq_true, forall_eq_or_imp, forall_eq, or_self, Nat.reduceLT, Nat.reduceLeDiff, and_self, List.forall_mem_cons, List.not_mem_nil, false_implies, implies_true, and_true, true_and, vcOGb]) (by simp only [List.length_cons, List.length_nil, List.map_cons, List.map_nil, List.nodup_cons, List.nodup_nil, List.mem_cons, Nat.reduceAdd, Nat.reduceEqDiff, or_false, not_false_eq_true, forall_eq_or_imp, forall_eq, or_self, Nat.reduceLT, Nat.reduceLeDiff, and_self, List.forall_mem_cons, List.not_mem_nil, false_implies, implies_true, and_true, true_and, vcOGb]) fun B w hpre => ?_; simp only [List.length_cons, List.length_nil, Tryz.ntmps74, Nat.reduceAdd, Nat.reduceSub, List.replicate_succ, List.replicate_zero, List.cons_append, List.nil_append])
  have hN0 := hpre.1
  have h0 := Kn.entry (P := Tryz.prog) ((natsAt_stays _ x n a).and (((isGrp_stays 135 k kx kq P Q G).and oneK_stays).and (cellAt_stays _ j _))) hpre
  have hN := h0.left
  have h1 := h0.right
  clear hpre h0
  (repeat' ((first | with_reducible (first | apply cF_pure2 (by assumption) | apply cF_ev2 (by assumption)) | refine X_of _ ?_ | with_reducible (first | exact ⟨_, rfl⟩ | refine And.intro ?_ ?_ | intro _)) <;> try simp -implicitDefEqProofs (maxSteps := 1000000) (disch := first | exact dz2 | fail) only [vcR, vcT, simprocAttr, Ab.part, implies_true, forall_const, vcS, vcXGb, Tryz.f74]))
  refine X_loop (ι := Nat) (fun i => i ≤ n ∧ ∀ q, q < i → memB P Q (a q) = true) (fun i => n - i) [5, 8, 9, 10, 11, 12, 13, 14, 15, 16, 17, 18]
    (fun i => [(8, .s (.v (.int .i64 (i : Nat))))])
    (fun i => []) 0 (shape_of fun i => ?_) (by decide) ?_ ?_
  · simp only [List.length_cons, List.length_nil, List.map_cons, List.map_nil, List.nodup_cons, List.nodup_nil, List.mem_cons, Nat.reduceAdd, Nat.reduceEqDiff, or_false, not_false_eq_true, forall_eq_or_imp, forall_eq, or_self, Nat.reduceLT, Nat.reduceLeDiff, and_self, List.forall_mem_cons, List.not_mem_nil, false_implies, implies_true, and_true, true_and, vcOGb]
  · simp -implicitDefEqProofs (maxSteps := 1000000) (disch := first | exact dz2 | fail) only [vcR, vcT, simprocAttr, Ab.part, implies_true, forall_const, vcS, vcXGb, Tryz.f74, again_eq]
    first | exact ⟨⟨Nat.zero_le _, fun q hq => absurd hq (Nat.not_lt_zero q)⟩, _, rfl⟩ | (simp; done)
  · intro i us ⟨hi, hb⟩
    by_cases h : i < n
    · obtain ⟨ad, rfl⟩ : ∃ ad, x = some ad := by
        rcases hN0 with h0 | ⟨ad, h0, _⟩
        · omega
        · exact ⟨ad, h0⟩
      have hx : ∀ {K : TV → HE → Prop}, xext (ctxE Tryz.prog (modEvo 135) w B) (some true) 4 (ad.add (i * 4)) K = K (.agg (nat4 (a i))) .none := fun {K} => hN.nat h
      have hm := gm1_e j k kx kq P Q G (a i) hP2 hQ2 (ha i)
      clear hN0 ha
      cases hmb : memB P Q (a i) with
      | true =>
        rw [hmb] at hm
        clear hr
        (repeat' ((first | with_reducible (first | apply cF_pure2 (by assumption) | apply cF_ev2 (by assumption)) | refine X_of _ ?_ | with_reducible (first | exact ⟨_, rfl⟩ | refine And.intro ?_ ?_ | intro _)) <;> try simp -implicitDefEqProofs (maxSteps := 1000000) (disch := first | exact dz2 | fail) only [vcR, vcT, simprocAttr, Ab.part, implies_true, forall_const, vcS, vcXGb, Tryz.f74, hx]))
        refine ⟨i + 1, by omega, ?_⟩
        simp -implicitDefEqProofs (maxSteps := 1000000) (disch := first | exact dz2 | fail) only [vcR, vcT, simprocAttr, Ab.part, implies_true, forall_const, vcS, vcXGb, Tryz.f74, again_eq]
        refine ⟨fun q hq => ?_, _, rfl⟩
        by_cases hq2 : q < i
        · exact hb q hq2
        · have : q = i := by omega
          subst this
          exact hmb
      | false =>
        rw [hmb] at hm
        have hri : r = (i : Int) := by
          rcases hr with ⟨i', h1, h2, h3, h4⟩ | ⟨h1, _⟩
          · rw [h4]
            rcases Nat.lt_trichotomy i i' with h5 | h5 | h5
            · rw [h3 i h5] at hmb; cases hmb
            · rw [h5]
            · rw [hb i' h5] at h2; cases h2
          · rw [h1 i h] at hmb; cases hmb
        subst hri
        clear hr
        (repeat' ((first | with_reducible (first | apply cF_pure2 (by assumption) | apply cF_ev2 (by assumption)) | refine X_of _ ?_ | with_reducible (first | exact ⟨_, rfl⟩ | refine And.intro ?_ ?_ | intro _)) <;> try simp -implicitDefEqProofs (maxSteps := 1000000) (disch := first | exact dz2 | fail) only [vcR, vcT, simprocAttr, Ab.part, implies_true, forall_const, vcS, vcXGb, Tryz.f74, hx]))
    · have : i = n := by omega
      subst this
      have hri : r = -1 := by
        rcases hr with ⟨i', h1, h2, _⟩ | ⟨_, h1⟩
        · rw [hb i' h1] at h2; cases h2
        · exact h1
      subst hri
      (repeat' ((first | with_reducible (first | apply cF_pure2 (by assumption) | apply cF_ev2 (by assumption)) | refine X_of _ ?_ | with_reducible (first | exact ⟨_, rfl⟩ | refine And.intro ?_ ?_ | intro _)) <;> try simp -implicitDefEqProofs (maxSteps := 1000000) (disch := first | exact dz2 | fail) only [vcR, vcT, simprocAttr, Ab.part, implies_true, forall_const, vcS, vcXGb, Tryz.f74]))
theorem gct_e (x : Option Addr) (n c : Nat) (a : Nat → Nat) (j k kx kq P Q G : Nat) (hP2 : P < 2 ^ 256) (hQ2 : Q < 2 ^ 256) (ha : ∀ i, a i < 2 ^ 256) (hn : n < 9223372036854775808) :
    EvC (modEvo 135) Tryz.prog 57 [.s (.v (.slice x n c)), .s (.v (.func (.func 58) #[] #[.pointer (some ⟨j, 0, none⟩)]))]
      (fun B w => natsAt (modEvo 135) x n a B w ∧ (GK k kx kq P Q G B w ∧ oneK B w) ∧ cellAt (modEvo 135) j (.pointer (some ⟨k, 0, none⟩)) B w) (.s (.v (.bool (!allM P Q n a)))) := by
  obtain ⟨r, hr, hd⟩ := ixOf_ex P Q n a
  rw [← hd]
  clear hd
  (refine evC_of Tryz.func57 rfl (by simp only [List.length_cons, List.length_nil, List.map_cons, List.map_nil, List.nodup_cons, List.nodup_nil, List.mem_cons, Nat.reduceAdd, Nat.reduceEqDiff, or_false, not_false_eq_true, forall_eq_or_imp, forall_eq, or_self, Nat.reduceLT, Nat.reduceLeDiff, and_self, List.forall_mem_cons, List.not_mem_nil, false_implies, implies_true, and_true, true_and, vcOGb]) (by simp only [List.length_cons, List.length_nil, List.map_cons, List.map_nil, List.nodup_cons, List.nodup_nil, List.mem_cons, Nat.reduceAdd, Nat.reduceEqDiff, or_false, not_false_eq_true, forall_eq_or_imp, forall_eq, or_self, Nat.reduceLT, Nat.reduceLeDiff, and_self, List.forall_mem_cons, List.not_mem_nil, false_implies, implies_true, and_true, true_and, vcOGb]) fun B w hpre => ?_; simp only [List.length_cons, List.length_nil, Tryz.ntmps57, Nat.reduceAdd, Nat.reduceSub, List.replicate_succ, List.replicate_zero, List.cons_append, List.nil_append])
  have h0 := Kn.entry (P := Tryz.prog) ((natsAt_stays _ x n a).and (((isGrp_stays 135 k kx kq P Q G).and oneK_stays).and (cellAt_stays _ j _))) hpre
  have hm := gix_e x n c a j k kx kq P Q G r hr hP2 hQ2 ha hn
  clear hpre hr
  (repeat' ((first | with_reducible (first | apply cF_pure2 (by assumption) | apply cF_ev2 (by assumption)) | refine X_of _ ?_ | with_reducible (first | exact ⟨_, rfl⟩ | refine And.intro ?_ ?_ | intro _)) <;> try simp -implicitDefEqProofs (maxSteps := 1000000) (disch := first | exact dz2 | fail) only [vcR, vcT, simprocAttr, Ab.part, implies_true, forall_const, vcS, vcXGb, Tryz.f57]))
theorem gfold_e (x y : Option Addr) (n c d : Nat) (a b : Nat → Nat) (kx P : Nat) (hP : OddM P) (ha : ∀ i, a i < 2 ^ 256) (hb : ∀ i, b i < 2 ^ 256) (hn : n < 9223372036854775808) :
    EvC (modEvo 135) Tryz.prog 60 [.s (.v (.slice x n c)), .s (.v (.slice y n d)), .s (.v (.func (.func 49) #[.pointer (some ⟨kx, 0, none⟩)] #[])), .s (.v (.func (.func 53) #[.pointer (some ⟨kx, 0, none⟩)] #[]))]
      (fun B w => (natsAt (modEvo 135) x n a B w ∧ natsAt (modEvo 135) y n b B w) ∧ (isMod 135 kx P B w ∧ oneK B w)) (.agg (nat4 (mulS P a b n))) := by
  (refine evC_of Tryz.func60 rfl (by simp only [List.length_cons, List.length_nil, List.map_cons, List.map_nil, List.nodup_cons, List.nodup_nil, List.mem_cons, Nat.reduceAdd, Nat.reduceEqDiff, or_false, not_false_eq_true, forall_eq_or_imp, forall_eq, or_self, Nat.reduceLT, Nat.reduceLeDiff, and_self, List.forall_mem_cons, List.not_mem_nil, false_implies, implies_true, and_true, true_and, vcOGb]) (by simp only [List.length_cons, List.length_nil, List.map_cons, List.map_nil, List.nodup_cons, List.nodup_nil, List.mem_cons, Nat.reduceAdd, Nat.reduceEqDiff, or_false, not_false_eq_true, forall_eq_or_imp, forall_eq, or_self, Nat.reduceLT, Nat.reduceLeDiff, and_self, List.forall_mem_cons, List.not_mem_nil, false_implies, implies_true, and_true, true_and, vcOGb]) fun B w hpre => ?_; simp only [List.length_cons, List.length_nil, Tryz.ntmps60, Nat.reduceAdd, Nat.reduceSub, List.replicate_succ, List.replicate_zero, List.cons_append, List.nil_append])
  have hN0 := hpre.1
  have h0 := Kn.entry (P := Tryz.prog) (((natsAt_stays _ x n a).and (natsAt_stays _ y n b)).and ((isMod_stays 135 kx P).and oneK_stays)) hpre
  have hNx := h0.left.left
  have hNy := h0.left.right
  have hM := h0.right.left
  have h1 := h0.right.right
  have h11 : ∀ {K : TV → HE → Prop}, xext (ctxE Tryz.prog (modEvo 135) w B) (some true) 4 ⟨2, 0, none⟩ K = K (.agg (nat4 1)) .none := fun {K} => Kn.one1 h1
  clear hpre h0
  (repeat' ((first | with_reducible (first | apply XR_cons | apply XR_consG | apply XR_nil | apply XM_cons | apply XM_consG | apply XM_nil | apply cF_pure2 (by assumption) | apply cM_pure2 (by assumption) | apply cF_ev2 (by assumption) | apply cM_ev2 (by assumption)) | (with_reducible apply X_drawM (id := 5) 8 [] (.cons 8 (.cons 9 (.cons 10 .nil .nil) .nil) .nil); (next => (kernel_rfl)); (next => (kernel_rfl))) | refine X_of _ ?_ | with_reducible (first | exact ⟨_, rfl⟩ | refine And.intro ?_ ?_ | intro _)) <;> try simp -implicitDefEqProofs (maxSteps := 1000000) (disch := first | exact dz2 | fail) only [vcR, vcT, simprocAttr, Ab.part, implies_true, forall_const, vcS, vcXGb, Tryz.f60, h11]))
  refine X_loop (ι := Nat) (fun i => i ≤ n) (fun i => n - i) [10, 11, 15, 16, 17, 18, 19, 20, 21, 22, 23, 24, 25, 26, 27, 28, 29, 30]
    (fun i => [(15, .s (.v (.int .i64 (i : Nat))))])
    (fun i => [(1, nat4 (mulS P a b i))]) 0 (shape_of fun i => ?_) (by decide) ?_ ?_
  · simp only [List.length_cons, List.length_nil, List.map_cons, List.map_nil, List.nodup_cons, List.nodup_nil, List.mem_cons, Nat.reduceAdd, Nat.reduceEqDiff, or_false, not_false_eq_true, forall_eq_or_imp, forall_eq, or_self, Nat.reduceLT, Nat.reduceLeDiff, and_self, List.forall_mem_cons, List.not_mem_nil, false_implies, implies_true, and_true, true_and, vcOGb]
  · simp -implicitDefEqProofs (maxSteps := 1000000) (disch := first | exact dz2 | fail) only [vcR, vcT, simprocAttr, Ab.part, implies_true, forall_const, vcS, vcXGb, Tryz.f60, again_eq]
    try simp
    all_goals rfl
  · intro i us hi
    by_cases h : i < n
    · obtain ⟨ad, rfl⟩ : ∃ ad, x = some ad := by
        rcases hN0.1 with h0 | ⟨ad, h0, _⟩
        · omega
        · exact ⟨ad, h0⟩
      obtain ⟨ay, rfl⟩ : ∃ ad, y = some ad := by
        rcases hN0.2 with h0 | ⟨ad, h0, _⟩
        · omega
        · exact ⟨ad, h0⟩
      have hx : ∀ {K : TV → HE → Prop}, xext (ctxE Tryz.prog (modEvo 135) w B) (some true) 4 (ad.add (i * 4)) K = K (.agg (nat4 (a i))) .none := fun {K} => hNx.nat h
      have hy : ∀ {K : TV → HE → Prop}, xext (ctxE Tryz.prog (modEvo 135) w B) (some true) 4 (ay.add (i * 4)) K = K (.agg (nat4 (b i))) .none := fun {K} => hNy.nat h
      have hp := pow_e kx P (a i) (b i) hP (ha i) (hb i)
      obtain ⟨p, hpp⟩ : ∃ p, a i ^ b i % P = p := ⟨_, rfl⟩
      have hp2 : p < 2 ^ 256 := by rw [← hpp]; exact hP.mod_lt
      have hs := mulS_lt hP a b i
      have hsi : mulS P a b (i + 1) = mulS P a b i * p % P := by rw [← hpp]; rfl
      obtain ⟨s, hss⟩ : ∃ s, mulS P a b i = s := ⟨_, rfl⟩
      obtain ⟨s', hss'⟩ : ∃ s', mulS P a b (i + 1) = s' := ⟨_, rfl⟩
      rw [hpp] at hp
      rw [hss] at hs hsi ⊢
      have ht := times_e kx P s p hP hs hp2
      rw [← hsi, hss'] at ht
      clear hN0 ha hb hpp hsi
      (repeat' ((first | with_reducible (first | apply XQ_cons | apply XQ_consG | apply XQ_nil | apply XR_cons | apply XR_consG | apply XR_nil | apply cF_pure2 (by assumption) | apply cV_pure2 (by assumption) | apply cF_ev2 (by assumption) | apply cV_ev2 (by assumption)) | (with_reducible apply X_drawC (id := 5) 10; (next => (kernel_rfl)); (next => (kernel_rfl))) | refine X_of _ ?_ | with_reducible (first | exact ⟨_, rfl⟩ | refine And.intro ?_ ?_ | intro _)) <;> try simp -implicitDefEqProofs (maxSteps := 1000000) (disch := first | exact dz2 | fail) only [vcR, vcT, simprocAttr, Ab.part, implies_true, forall_const, vcS, vcXGb, Tryz.f60, hx,hy]))
      refine ⟨i + 1, by omega, ?_⟩
      simp -implicitDefEqProofs (maxSteps := 1000000) (disch := first | exact dz2 | fail) only [vcR, vcT, simprocAttr, Ab.part, implies_true, forall_const, vcS, vcXGb, Tryz.f60, again_eq,hss']
      first | exact ⟨_, rfl, rfl⟩ | exact ⟨_, rfl⟩ | rfl | trace_state
    · have : i = n := by omega
      subst this
      (repeat' ((first | with_reducible (first | apply XR_cons | apply XR_consG | apply XR_nil | apply XM_cons | apply XM_consG | apply XM_nil | apply cF_pure2 (by assumption) | apply cM_pure2 (by assumption) | apply cF_ev2 (by assumption) | apply cM_ev2 (by assumption)) | (with_reducible apply X_drawM (id := 5) 8 [] (.cons 8 (.cons 9 (.cons 10 .nil .nil) .nil) .nil); (next => (kernel_rfl)); (next => (kernel_rfl))) | refine X_of _ ?_ | with_reducible (first | exact ⟨_, rfl⟩ | refine And.intro ?_ ?_ | intro _)) <;> try simp -implicitDefEqProofs (maxSteps := 1000000) (disch := first | exact dz2 | fail) only [vcR, vcT, simprocAttr, Ab.part, implies_true, forall_const, vcS, vcXGb, Tryz.f60]))
theorem muE_arg {P Q n m : Nat} {a : Nat → Nat} (h : n ≠ m ∨ 40 < n) : muE P Q n m a = 1 := if_pos h
theorem muE_ok {P Q n m : Nat} {a : Nat → Nat} (h : ¬ (n ≠ m ∨ 40 < n)) : muE P Q n m a = if allM P Q n a then 0 else 22 := if_neg h
theorem gMulti_e (x y : Option Addr) (n m c d : Nat) (a b : Nat → Nat) (k kx kq P Q G : Nat) (hP2 : P < 2 ^ 256) (hQ2 : Q < 2 ^ 256) (ha : ∀ i, a i < 2 ^ 256) (hb : ∀ i, b i < 2 ^ 256) (hn : n < 9223372036854775808) (hm : m < 9223372036854775808) :
    EvC (modEvo 135) Tryz.prog 36 [.s (.v (.pointer (some ⟨k, 0, none⟩))), .s (.v (.slice x n c)), .s (.v (.slice y m d))]
      (fun B w => (natsAt (modEvo 135) x n a B w ∧ natsAt (modEvo 135) y m b B w) ∧ (GK k kx kq P Q G B w ∧ oneK B w)) (.tup [.agg (nat4 (muV P Q n m a b)), .s (.v (.int .i64 (muE P Q n m a)))]) := by
  (refine evC_of Tryz.func36 rfl (by simp only [List.length_cons, List.length_nil, List.map_cons, List.map_nil, List.nodup_cons, List.nodup_nil, List.mem_cons, Nat.reduceAdd, Nat.reduceEqDiff, or_false, not_false_eq_true, forall_eq_or_imp, forall_eq, or_self, Nat.reduceLT, Nat.reduceLeDiff, and_self, List.forall_mem_cons, List.not_mem_nil, false_implies, implies_true, and_true, true_and, vcOGb]) (by simp only [List.length_cons, List.length_nil, List.map_cons, List.map_nil, List.nodup_cons, List.nodup_nil, List.mem_cons, Nat.reduceAdd, Nat.reduceEqDiff, or_false, not_false_eq_true, forall_eq_or_imp, forall_eq, or_self, Nat.reduceLT, Nat.reduceLeDiff, and_self, List.forall_mem_cons, List.not_mem_nil, false_implies, implies_true, and_true, true_and, vcOGb]) fun B w hpre => ?_; simp only [List.length_cons, List.length_nil, Tryz.ntmps36, Nat.reduceAdd, Nat.reduceSub, List.replicate_succ, List.replicate_zero, List.cons_append, List.nil_append])
  have h0 := Kn.entry (P := Tryz.prog) (((natsAt_stays _ x n a).and (natsAt_stays _ y m b)).and ((isGrp_stays 135 k kx kq P Q G).and oneK_stays)) hpre
  clear hpre
  obtain ⟨hP, hQ⟩ := h0.right.left.gOdd
  unfold muV
  obtain ⟨e, he⟩ : ∃ e, muE P Q n m a = e := ⟨_, rfl⟩
  rw [he]
  by_cases hnm : n ≠ m ∨ 40 < n
  · rw [muE_arg hnm] at he
    subst he
    clear h0
    by_cases hnm2 : n = m
    · subst hnm2
      have h40 : 40 < n := by omega
      (repeat' ((first | with_reducible (first | apply XQ_cons | apply XQ_consG | apply XQ_nil | apply XR_cons | apply XR_consG | apply XR_nil | apply cF_pure2 (by assumption) | apply cV_pure2 (by assumption) | apply cF_ev2 (by assumption) | apply cV_ev2 (by assumption)) | with_reducible (first | apply gRS (by with_unfolding_all rfl) | apply gR (by with_unfolding_all rfl) | apply gS (by with_unfolding_all rfl) | fail) | (with_reducible apply X_drawC (id := 5) 12; (next => (kernel_rfl)); (next => (kernel_rfl))) | refine X_of _ ?_ | with_reducible (first | exact ⟨_, rfl⟩ | refine And.intro ?_ ?_ | intro _)) <;> try simp -implicitDefEqProofs (maxSteps := 1000000) (disch := first | exact dz2 | fail) only [vcR, vcT, simprocAttr, Ab.part, implies_true, forall_const, vcS, vcXGb, Tryz.f36, bne_self_eq_false]))
    · have hbn : (n != m) = true := bne_iff_ne.2 hnm2
      (repeat' ((first | with_reducible (first | apply XQ_cons | apply XQ_consG | apply XQ_nil | apply XR_cons | apply XR_consG | apply XR_nil | apply cF_pure2 (by assumption) | apply cV_pure2 (by assumption) | apply cF_ev2 (by assumption) | apply cV_ev2 (by assumption)) | with_reducible (first | apply gRS (by with_unfolding_all rfl) | apply gR (by with_unfolding_all rfl) | apply gS (by with_unfolding_all rfl) | fail) | (with_reducible apply X_drawC (id := 5) 12; (next => (kernel_rfl)); (next => (kernel_rfl))) | refine X_of _ ?_ | with_reducible (first | exact ⟨_, rfl⟩ | refine And.intro ?_ ?_ | intro _)) <;> try simp -implicitDefEqProofs (maxSteps := 1000000) (disch := first | exact dz2 | fail) only [vcR, vcT, simprocAttr, Ab.part, implies_true, forall_const, vcS, vcXGb, Tryz.f36, hbn]))
  · rw [muE_ok hnm] at he
    have hnm2 : n = m := by omega
    subst hnm2
    have h40 : n ≤ 40 := by omega
    clear hnm
    (refine X_of _ ?_; simp -implicitDefEqProofs (maxSteps := 1000000) (disch := first | exact dz2 | fail) only [vcR, vcT, simprocAttr, Ab.part, implies_true, forall_const, vcS, vcXGb, Tryz.f36, bne_self_eq_false])
    refine X_rebase (modEvo 135) B [1] (by decide) (by simp) rfl (.inl ⟨rfl, rfl⟩) (fun _ h => h) (by simp [modEvo]) fun β1 w1 hR1 => ?_
    have h1 := h0.after (L := [1]) hR1 (by simp)
    have hc : Kn ((ctxE Tryz.prog (modEvo 135) w B).after (modEvo 135) B w1 β1 [1]) (cellAt (modEvo 135) (β1 0) (.pointer (some ⟨k, 0, none⟩))) := cellsAt_gone (n := 1) (V := modEvo 135) (B := B) (g := fun _ => .pointer (some ⟨k, 0, none⟩)) (L := [1]) (j := 0) hR1 rfl (by decide) (by simp) (by simp [modEvo]) fun i hi => by
      rcases i with _ | i
      · rfl
      · omega
    clear h0 hR1
    obtain ⟨j, hj⟩ : ∃ j, β1 0 = j := ⟨_, rfl⟩
    rw [hj] at hc
    have hNx : Kn ((ctxE Tryz.prog (modEvo 135) w B).after (modEvo 135) B w1 β1 [1]) _ := h1.left.left
    have hNy : Kn ((ctxE Tryz.prog (modEvo 135) w B).after (modEvo 135) B w1 β1 [1]) _ := h1.left.right
    have hG : Kn ((ctxE Tryz.prog (modEvo 135) w B).after (modEvo 135) B w1 β1 [1]) (GK k kx kq P Q G) := h1.right.left
    have hO : Kn ((ctxE Tryz.prog (modEvo 135) w B).after (modEvo 135) B w1 β1 [1]) oneK := h1.right.right
    have hM := hG.gmx
    clear h1
    have hx : ∀ {K : TV → HE → Prop} {q : Nat}, xext ((ctxE Tryz.prog (modEvo 135) w B).after (modEvo 135) B w1 β1 [1]) (some false) q ⟨k, 12, none⟩ K = K (.s (.v (.pointer (some ⟨kx, 0, none⟩)))) .none := fun {K} => hG.gx
    have hl : ∀ {K : TV → HE → Prop} {q : Nat}, xext ((ctxE Tryz.prog (modEvo 135) w B).after (modEvo 135) B w1 β1 [1]) (some false) q ⟨j, 0, none⟩ K = K (.s (.v (.pointer (some ⟨k, 0, none⟩)))) .none := fun {K} => hc.cell1
    have hct := gct_e x n c a j k kx kq P Q G hP2 hQ2 ha hn
    have hf := gfold_e x y n c d a b kx P hP ha hb hn
    have hs := mulS_lt hP a b n
    obtain ⟨s, hss⟩ : ∃ s, mulS P a b n = s := ⟨_, rfl⟩
    rw [hss] at hf hs ⊢
    clear ha hb hss
    cases hall : allM P Q n a with
    | true =>
      rw [hall] at he hct
      subst he
      try simp -implicitDefEqProofs (maxSteps := 1000000) (disch := first | exact dz2 | fail) only [vcR, vcT, simprocAttr, Ab.part, implies_true, forall_const, vcS, vcXGb, Tryz.f36, arr4_zero,hj]
      (repeat' ((first | with_reducible (first | apply XQ_cons | apply XQ_consG | apply XQ_nil | apply XR_cons | apply XR_consG | apply XR_nil | apply cF_pure2 (by assumption) | apply cV_pure2 (by assumption) | apply cF_ev2 (by assumption) | apply cV_ev2 (by assumption)) | with_reducible (first | apply gRS (by with_unfolding_all rfl) | apply gR (by with_unfolding_all rfl) | apply gS (by with_unfolding_all rfl) | fail) | (with_reducible apply X_drawC (id := 5) 12; (next => (kernel_rfl)); (next => (kernel_rfl))) | refine X_of _ ?_ | with_reducible (first | exact ⟨_, rfl⟩ | refine And.intro ?_ ?_ | intro _)) <;> try simp -implicitDefEqProofs (maxSteps := 1000000) (disch := first | exact dz2 | fail) only [vcR, vcT, simprocAttr, Ab.part, implies_true, forall_const, vcS, vcXGb, Tryz.f36, addr_add,hx,hl,bne_self_eq_false]))
    | false =>
      rw [hall] at he hct
      subst he
      try simp -implicitDefEqProofs (maxSteps := 1000000) (disch := first | exact dz2 | fail) only [vcR, vcT, simprocAttr, Ab.part, implies_true, forall_const, vcS, vcXGb, Tryz.f36, arr4_zero,hj]
      (repeat' ((first | with_reducible (first | apply XQ_cons | apply XQ_consG | apply XQ_nil | apply XR_cons | apply XR_consG | apply XR_nil | apply cF_pure2 (by assumption) | apply cV_pure2 (by assumption) | apply cF_ev2 (by assumption) | apply cV_ev2 (by assumption)) | with_reducible (first | apply gRS (by with_unfolding_all rfl) | apply gR (by with_unfolding_all rfl) | apply gS (by with_unfolding_all rfl) | fail) | (with_reducible apply X_drawC (id := 5) 12; (next => (kernel_rfl)); (next => (kernel_rfl))) | refine X_of _ ?_ | with_reducible (first | exact ⟨_, rfl⟩ | refine And.intro ?_ ?_ | intro _)) <;> try simp -implicitDefEqProofs (maxSteps := 1000000) (disch := first | exact dz2 | fail) only [vcR, vcT, simprocAttr, Ab.part, implies_true, forall_const, vcS, vcXGb, Tryz.f36, addr_add,hx,hl,bne_self_eq_false]))
def placeN (s : Int) : Nat := (max s 0).toNat + 1
theorem nat_word {x : Nat} (hx : x < 18446744073709551616) : arr 4 (fun j => if j = 0 then x else wd 0 j) = nat4 x := by
  refine arr_congr fun i hi => ?_
  by_cases h : i = 0
  · subst h
    rw [if_pos rfl, wd_small x hx]
  · rw [if_neg h, wd_zero, wd_big x i (Nat.lt_of_lt_of_le (show x < 2 ^ 64 from hx) (Nat.pow_le_pow_right (by decide) (by omega)))]
theorem place_c (s : Int) (h1 : -9223372036854775808 ≤ s) (h2 : s < 9223372036854775807) : PureC Tryz.prog 29 [.s (.v (.int .i64 s))] (.agg (nat4 (placeN s))) := by
  refine pureC_of Tryz.func29 rfl (by simp only [List.length_cons, List.length_nil, List.map_cons, List.map_nil, List.nodup_cons, List.nodup_nil, List.mem_cons, Nat.reduceAdd, Nat.reduceEqDiff, or_false, not_false_eq_true, forall_eq_or_imp, forall_eq, or_self, Nat.reduceLT, Nat.reduceLeDiff, and_self, List.forall_mem_cons, List.not_mem_nil, false_implies, implies_true, and_true, true_and, vcOHb]) (by simp only [List.length_cons, List.length_nil, List.map_cons, List.map_nil, List.nodup_cons, List.nodup_nil, List.mem_cons, Nat.reduceAdd, Nat.reduceEqDiff, or_false, not_false_eq_true, forall_eq_or_imp, forall_eq, or_self, Nat.reduceLT, Nat.reduceLeDiff, and_self, List.forall_mem_cons, List.not_mem_nil, false_implies, implies_true, and_true, true_and, vcOHb]) fun w => ?_
  simp only [List.length_cons, List.length_nil, Tryz.ntmps29, Nat.reduceAdd, Nat.reduceSub, List.replicate_succ, List.replicate_zero, List.cons_append, List.nil_append]
  by_cases h0 : 0 ≤ s
  · obtain ⟨n, rfl⟩ := Int.eq_ofNat_of_zero_le h0
    have hp : placeN (n : Int) = n + 1 := by unfold placeN; omega
    have hc : ¬ (0 : Int) > (n : Int) := by omega
    have hw := nat_word (x := n + 1) (by omega)
    rw [hp]
    clear hp
    (repeat' ((first | with_reducible (first | apply XR_max | apply XR_cons | apply XR_consG | apply XR_nil | apply cF_pure3 (by assumption) | apply cF_ev3 (by assumption)) | with_reducible (first | apply gRS (by with_unfolding_all rfl) | apply gR (by with_unfolding_all rfl) | apply gS (by with_unfolding_all rfl) | fail) | refine X_of _ ?_ | with_reducible (first | exact ⟨_, rfl⟩ | refine And.intro ?_ ?_ | intro _)) <;> try simp -implicitDefEqProofs (maxSteps := 1000000) (disch := first | exact dz3 | fail) only [vcR, vcT, simprocAttr, Ab.part, implies_true, forall_const, vcS, vcXHb, Tryz.f29, xmax_int,hc,hw]))
  · have hp : placeN s = 1 := by unfold placeN; omega
    have hc : (0 : Int) > s := by omega
    rw [hp]
    clear hp
    have hw : (nat4 0).set 0 (.v (.int .u64 (IntKind.u64.wrap 1))) = nat4 1 := by kernel_rfl
    (repeat' ((first | with_reducible (first | apply XR_max | apply XR_cons | apply XR_consG | apply XR_nil | apply cF_pure3 (by assumption) | apply cF_ev3 (by assumption)) | with_reducible (first | apply gRS (by with_unfolding_all rfl) | apply gR (by with_unfolding_all rfl) | apply gS (by with_unfolding_all rfl) | fail) | refine X_of _ ?_ | with_reducible (first | exact ⟨_, rfl⟩ | refine And.intro ?_ ?_ | intro _)) <;> try simp -implicitDefEqProofs (maxSteps := 1000000) (disch := first | exact dz3 | fail) only [vcR, vcT, simprocAttr, Ab.part, implies_true, forall_const, vcS, vcXHb, Tryz.f29, xmax_int,hc,hw]))
theorem few_c (n : Int) : PureC Tryz.prog 24 [.s (.v (.int .i64 n))] (.s (.v (.bool (decide (n ≥ 1) && decide (n ≤ 20))))) := by
  refine pureC_of Tryz.func24 rfl (by simp only [List.length_cons, List.length_nil, List.map_cons, List.map_nil, List.nodup_cons, List.nodup_nil, List.mem_cons, Nat.reduceAdd, Nat.reduceEqDiff, or_false, not_false_eq_true, forall_eq_or_imp, forall_eq, or_self, Nat.reduceLT, Nat.reduceLeDiff, and_self, List.forall_mem_cons, List.not_mem_nil, false_implies, implies_true, and_true, true_and, vcOHb]) (by simp only [List.length_cons, List.length_nil, List.map_cons, List.map_nil, List.nodup_cons, List.nodup_nil, List.mem_cons, Nat.reduceAdd, Nat.reduceEqDiff, or_false, not_false_eq_true, forall_eq_or_imp, forall_eq, or_self, Nat.reduceLT, Nat.reduceLeDiff, and_self, List.forall_mem_cons, List.not_mem_nil, false_implies, implies_true, and_true, true_and, vcOHb]) fun w => ?_
  simp only [List.length_cons, List.length_nil, Tryz.ntmps24, Nat.reduceAdd, Nat.reduceSub, List.replicate_succ, List.replicate_zero, List.cons_append, List.nil_append]
  by_cases h1 : n ≥ 1
  · by_cases h2 : n ≤ 20
    · rw [decide_eq_true h1, decide_eq_true h2]
      (repeat' ((first | with_reducible (first | apply cF_pure3 (by assumption) | apply cF_ev3 (by assumption)) | refine X_of _ ?_ | with_reducible (first | exact ⟨_, rfl⟩ | refine And.intro ?_ ?_ | intro _)) <;> try simp -implicitDefEqProofs (maxSteps := 1000000) (disch := first | exact dz3 | fail) only [vcR, vcT, simprocAttr, Ab.part, implies_true, forall_const, vcS, vcXHb, Tryz.f24, h1,h2]))
      all_goals rfl
    · rw [decide_eq_true h1, decide_eq_false h2]
      (repeat' ((first | with_reducible (first | apply cF_pure3 (by assumption) | apply cF_ev3 (by assumption)) | refine X_of _ ?_ | with_reducible (first | exact ⟨_, rfl⟩ | refine And.intro ?_ ?_ | intro _)) <;> try simp -implicitDefEqProofs (maxSteps := 1000000) (disch := first | exact dz3 | fail) only [vcR, vcT, simprocAttr, Ab.part, implies_true, forall_const, vcS, vcXHb, Tryz.f24, h1,h2]))
      all_goals rfl
  · rw [decide_eq_false h1]
    (repeat' ((first | with_reducible (first | apply cF_pure3 (by assumption) | apply cF_ev3 (by assumption)) | refine X_of _ ?_ | with_reducible (first | exact ⟨_, rfl⟩ | refine And.intro ?_ ?_ | intro _)) <;> try simp -implicitDefEqProofs (maxSteps := 1000000) (disch := first | exact dz3 | fail) only [vcR, vcT, simprocAttr, Ab.part, implies_true, forall_const, vcS, vcXHb, Tryz.f24, h1]))
    all_goals rfl
theorem below_e (k kx kq P Q G a : Nat) (ha : a < 2 ^ 256) : EvC (modEvo 135) Tryz.prog 25 [.s (.v (.pointer (some ⟨k, 0, none⟩))), .agg (nat4 a)] (GK k kx kq P Q G) (.s (.v (.bool (decide (a < Q))))) := by
  (refine evC_of Tryz.func25 rfl (by simp only [List.length_cons, List.length_nil, List.map_cons, List.map_nil, List.nodup_cons, List.nodup_nil, List.mem_cons, Nat.reduceAdd, Nat.reduceEqDiff, or_false, not_false_eq_true, forall_eq_or_imp, forall_eq, or_self, Nat.reduceLT, Nat.reduceLeDiff, and_self, List.forall_mem_cons, List.not_mem_nil, false_implies, implies_true, and_true, true_and, vcOHb]) (by simp only [List.length_cons, List.length_nil, List.map_cons, List.map_nil, List.nodup_cons, List.nodup_nil, List.mem_cons, Nat.reduceAdd, Nat.reduceEqDiff, or_false, not_false_eq_true, forall_eq_or_imp, forall_eq, or_self, Nat.reduceLT, Nat.reduceLeDiff, and_self, List.forall_mem_cons, List.not_mem_nil, false_implies, implies_true, and_true, true_and, vcOHb]) fun B w hpre => ?_; simp only [List.length_cons, List.length_nil, Tryz.ntmps25, Nat.reduceAdd, Nat.reduceSub, List.replicate_succ, List.replicate_zero, List.cons_append, List.nil_append])
  have h1 := Kn.entry (P := Tryz.prog) (isGrp_stays 135 k kx kq P Q G) hpre
  have hMQ : Kn (ctxE Tryz.prog (modEvo 135) w B) (isMod 135 kq Q) := h1.gmq
  obtain ⟨hOP, hOQ⟩ := h1.gOdd
  have hQ2 := hOQ.lt
  have e1 := gQ_e k kx kq P Q G
  have e2 := M_e kq Q
  clear hpre
  by_cases hq : a < Q
  · have hs := sg_lt0 hq
    rw [decide_eq_true hq]
    clear hq
    (repeat' ((first | with_reducible (first | apply XQ_cons | apply XQ_consG | apply XQ_nil | apply XR_cons | apply XR_consG | apply XR_nil | apply cF_pure3 (by assumption) | apply cV_pure3 (by assumption) | apply cF_ev3 (by assumption) | apply cV_ev3 (by assumption) | apply cF_pure3 (cmp_c _ _ bd3 bd3) | apply cV_pure3 (cmp_c _ _ bd3 bd3)) | (with_reducible apply X_drawC (id := 1) 7; (next => (kernel_rfl)); (next => (kernel_rfl))) | refine X_of _ ?_ | with_reducible (first | exact ⟨_, rfl⟩ | refine And.intro ?_ ?_ | intro _)) <;> try simp -implicitDefEqProofs (maxSteps := 1000000) (disch := first | exact dz3 | fail) only [vcR, vcT, simprocAttr, Ab.part, implies_true, forall_const, vcS, vcXHb, Tryz.f25, hs]))
  · have hs : ¬ sg a Q < 0 := by have := sg_nonneg (Nat.le_of_not_lt hq); omega
    rw [decide_eq_false hq]
    clear hq
    (repeat' ((first | with_reducible (first | apply XQ_cons | apply XQ_consG | apply XQ_nil | apply XR_cons | apply XR_consG | apply XR_nil | apply cF_pure3 (by assumption) | apply cV_pure3 (by assumption) | apply cF_ev3 (by assumption) | apply cV_ev3 (by assumption) | apply cF_pure3 (cmp_c _ _ bd3 bd3) | apply cV_pure3 (cmp_c _ _ bd3 bd3)) | (with_reducible apply X_drawC (id := 1) 7; (next => (kernel_rfl)); (next => (kernel_rfl))) | refine X_of _ ?_ | with_reducible (first | exact ⟨_, rfl⟩ | refine And.intro ?_ ?_ | intro _)) <;> try simp -implicitDefEqProofs (maxSteps := 1000000) (disch := first | exact dz3 | fail) only [vcR, vcT, simprocAttr, Ab.part, implies_true, forall_const, vcS, vcXHb, Tryz.f25, hs]))
def vcXAb25 := (And.intro (And.intro (And.intro (And.intro (And.intro (And.intro (And.intro @modc_length @modc_take) (And.intro @modc_sq (And.intro @modc_i @modS_length))) (And.intro (And.intro @nats_length @pt_length) (And.intro @pt_fst (And.intro @pt_snd @pt_one)))) (And.intro (And.intro (And.intro @pt_splice @avren_sl) (And.intro @qm_call (And.intro @qm_move @qm_assign))) (And.intro (And.intro @qm_pick (And.intro @qm_build @qm_load)) (And.intro @qm_nilCheck (And.intro @qm_binOp @qm_unOp))))) (And.intro (And.intro (And.intro (And.intro @qm_convert @qm_fieldAddr) (And.intro @qm_field (And.intro @qm_indexAddr @qm_index))) (And.intro (And.intro @qm_extract (And.intro @qm_makeFunc @xcalledM_first)) (And.intro @xcalledM_cap (And.intro @maskOK_p @maskOK_v)))) (And.intro (And.intro (And.intro @xcallHM_value @xcallHM_len) (And.intro @xcalledM_some (And.intro @xTrM_nil @xTrM_false))) (And.intro (And.intro @xTrM_cons (And.intro @xAtM_assign @xAtM_move)) (And.intro @xAtM_extract (And.intro @xAtM_alloc @xAtM_store)))))) (And.intro (And.intro (And.intro (And.intro (And.intro @famL_nil @famL_cons) (And.intro @tf135_row (And.intro @tf135_sz @tf135_szO))) (And.intro (And.intro @tf135_f0 (And.intro @tf135_f1 @tf135_f2)) (And.intro @tf135_f3 (And.intro @tf135_known @tf135_zero)))) (And.intro (And.intro (And.intro @tf135_p0 @tf135_p1) (And.intro @tf135_p2 (And.intro @tf135_p3 @tf135_slc))) (And.intro (And.intro @tf144_row (And.intro @tf144_sz @tf144_szO)) (And.intro @tf144_arr (And.intro @tf144_known @tf144_eq))))) (And.intro (And.intro (And.intro (And.intro @tf144_zero @tf144_lits) (And.intro @tf144_place (And.intro @tf144_slc @tf71_row))) (And.intro (And.intro @tf71_sz (And.intro @tf71_szO @tf71_slc)) (And.intro @tf71_ptr (And.intro @tf71_zero @tf146_row)))) (And.intro (And.intro (And.intro @tf146_sz @tf146_szO) (And.intro @tf146_slc (And.intro @tf146_ptr @tf146_zero))) (And.intro (And.intro @tf147_row (And.intro @tf147_sz @tf147_szO)) (And.intro @tf147_slc (And.intro @tf147_arr @tf147_isSlc))))))) (And.intro (And.intro (And.intro (And.intro (And.intro (And.intro @tf147_zero @tf125_row) (And.intro @tf125_sz (And.intro @tf125_szO @tf125_slc))) (And.intro (And.intro @tf125_int (And.intro @tf125_zero @tf21_row)) (And.intro @tf21_sz (And.intro @tf21_szO @tf21_slc)))) (And.intro (And.intro (And.intro @tf21_int @tf21_zero) (And.intro @ctxN_P (And.intro @ctxN_TM @bnd_none))) (And.intro (And.intro @bnd_int (And.intro @xslB_some @xslice_p)) (And.intro @xslice_sl (And.intro @xslice_v @xarrAt_sl))))) (And.intro (And.intro (And.intro (And.intro @xarrAt_v @tq22_row) (And.intro @tq22_sz (And.intro @tq22_szO @tq22_slc))) (And.intro (And.intro @tq22_arr (And.intro @tq22_isSlc @tq22_zero)) (And.intro @tq81_row (And.intro @tq81_sz @tq81_szO)))) (And.intro (And.intro (And.intro @tq81_slc @tq81_arr) (And.intro @tq81_isSlc (And.intro @tq81_zero @tq83_row))) (And.intro (And.intro @tq83_sz (And.intro @tq83_szO @tq83_f0)) (And.intro @tq83_f1 (And.intro @tq83_known @tq83_eq)))))) (And.intro (And.intro (And.intro (And.intro (And.intro @tq83_zero @tq83_p0) (And.intro @tq83_p1 (And.intro @tq83_slc @ctxE_P))) (And.intro (And.intro @ctxE_TM (And.intro @modEvo_TM @after_P)) (And.intro @after_TM (And.intro @fz_v @fz_p)))) (And.intro (And.intro (And.intro @fz_sl @fz_agg) (And.intro @fz_tup (And.intro @fz_undef @avfz_v))) (And.intro (And.intro @avfz_p (And.intro @avfz_sl @avfz_agg)) (And.intro @svfz_v (And.intro @svfz_p @svfz_sl))))) (And.intro (And.intro (And.intro (And.intro @fzP_none @fzP_some) (And.intro @fzS_none (And.intro @fzS_some @fz_nat4))) (And.intro (And.intro @fz_arr (And.intro @fz_iarr @fzB_some)) (And.intro @fzH_nil (And.intro @fzH_cons @posL_nil)))) (And.intro (And.intro (And.intro @posL_cons @ren_v) (And.intro @ren_p (And.intro @ren_sl @ren_undef))) (And.intro (And.intro @ren_nat4 (And.intro @ren_tupE @ren_tup)) (And.intro @avren_v (And.intro @avren_p @avren_nat4))))))))
def vcOAb25 := (And.intro (And.intro (And.intro (And.intro @okv_p @okv_sl) (And.intro @oks_s @oks_agg)) (And.intro (And.intro @oks_tup @oka_s) (And.intro @oka_agg @okv_v))) (And.intro (And.intro (And.intro @nat4_okk @nat8_okk) (And.intro @arr_okk @iarr_okk)) (And.intro (And.intro @modc_okk @modS_okk) (And.intro @nats_okk @pt_okk))))
theorem bd {p : Prop} (h : p := by first | (with_reducible first | assumption | exact OddM.mod_lt (by assumption) | exact OddM.mo_lt (by assumption) | exact OddM.mo_lt' (by assumption) | exact OddM.img_lt (by assumption) | exact OddM.msub_lt (by assumption) | exact OddM.lt (by assumption) | exact OddM.pos (by assumption) | exact lt512 (by assumption) | exact lt512_add (by first | assumption | exact OddM.mod_lt (by assumption)) (by first | assumption | exact OddM.lt (by assumption)) | exact lt512_mul (by assumption) (by assumption)) | decide | omega) : p := h
theorem dz {p : Prop} (h : p := by first | (simp only [nat4_length, nat8_length, arr_length, iarr_length, modc_length, modS_length, nats_length, pt_length, List.length_cons, List.length_nil, Nat.reduceAdd]; done) | omega) : p := h
section
variable {Γ : Ctx} {P : Program} {V : Evo} {H : Heap} {f : FuncId} {args : List TV} {r : TV} {K : TV → Heap → Prop} {KV : TV → Prop}
end
def sumM (m : Nat) (l : Nat → Nat) : Nat → Nat
  | 0 => 0
  | n + 1 => (sumM m l n + l n) % m
theorem sumM_lt {m : Nat} (h : OddM m) (l : Nat → Nat) : ∀ n, sumM m l n < 2 ^ 256
  | 0 => by show 0 < 2 ^ 256; decide
  | n + 1 => h.mod_lt
theorem sum_e (k m : Nat) (x : Option Addr) (n c : Nat) (l : Nat → Nat) (hG : OddM m) (hl : ∀ i, l i < 2 ^ 256) (hn : n < 9223372036854775808) :
    EvC (modEvo 135) Tryz.prog 52 [.s (.v (.pointer (some ⟨k, 0, none⟩))), .s (.v (.slice x n c))] (fun B w => isMod 135 k m B w ∧ natsAt (modEvo 135) x n l B w) (.agg (nat4 (sumM m l n))) := by
  (refine evC_of Tryz.func52 rfl (by simp only [List.length_cons, List.length_nil, List.map_cons, List.map_nil, List.nodup_cons, List.nodup_nil, List.mem_cons, Nat.reduceAdd, Nat.reduceEqDiff, or_false, not_false_eq_true, forall_eq_or_imp, forall_eq, or_self, Nat.reduceLT, Nat.reduceLeDiff, and_self, List.forall_mem_cons, List.not_mem_nil, false_implies, implies_true, and_true, true_and, vcOAb25]) (by simp only [List.length_cons, List.length_nil, List.map_cons, List.map_nil, List.nodup_cons, List.nodup_nil, List.mem_cons, Nat.reduceAdd, Nat.reduceEqDiff, or_false, not_false_eq_true, forall_eq_or_imp, forall_eq, or_self, Nat.reduceLT, Nat.reduceLeDiff, and_self, List.forall_mem_cons, List.not_mem_nil, false_implies, implies_true, and_true, true_and, vcOAb25]) fun B w hpre => ?_; simp only [List.length_cons, List.length_nil, Tryz.ntmps52, Nat.reduceAdd, Nat.reduceSub, List.replicate_succ, List.replicate_zero, List.cons_append, List.nil_append])
  have hM : Kn (ctxE Tryz.prog (modEvo 135) w B) (isMod 135 k m) := Kn.entry (isMod_stays _ k m) hpre.1
  have hN : Kn (ctxE Tryz.prog (modEvo 135) w B) (natsAt (modEvo 135) x n l) := Kn.entry (natsAt_stays _ x n l) hpre.2
  have hN0 := hpre.2
  clear hpre
  (repeat' ((first | with_reducible (first | apply cF_pure (by assumption) | apply cF_ev (by assumption) | apply cF_ev (plus_e _ _ _ _ bd bd bd)) | refine X_of _ ?_ | with_reducible (first | exact ⟨_, rfl⟩ | refine And.intro ?_ ?_ | intro _)) <;> try simp -implicitDefEqProofs (maxSteps := 1000000) (disch := first | exact dz | fail) only [vcR, vcT, simprocAttr, Ab.part, implies_true, forall_const, vcS, vcXAb25, Tryz.f52]))
  refine X_loop (ι := Nat) (fun i => i ≤ n) (fun i => n - i) [7, 10, 11, 12, 13, 14, 15, 16, 17, 18, 19]
    (fun i => [(10, .s (.v (.int .i64 (i : Nat))))])
    (fun i => [(1, nat4 (sumM m l i))]) 0 (shape_of fun i => ?_) (by decide) ?_ ?_
  · simp only [List.length_cons, List.length_nil, List.map_cons, List.map_nil, List.nodup_cons, List.nodup_nil, List.mem_cons, Nat.reduceAdd, Nat.reduceEqDiff, or_false, not_false_eq_true, forall_eq_or_imp, forall_eq, or_self, Nat.reduceLT, Nat.reduceLeDiff, and_self, List.forall_mem_cons, List.not_mem_nil, false_implies, implies_true, and_true, true_and, vcOAb25]
  · simp -implicitDefEqProofs (maxSteps := 1000000) (disch := first | exact dz | fail) only [vcR, vcT, simprocAttr, Ab.part, implies_true, forall_const, vcS, vcXAb25, Tryz.f52, again_eq]
    try simp
    all_goals rfl
  · intro i us hi
    (repeat (refine X_of _ ?_; simp -implicitDefEqProofs (maxSteps := 1000000) (disch := first | exact dz | fail) only [vcR, vcT, simprocAttr, Ab.part, implies_true, forall_const, vcS, vcXAb25, Tryz.f52]))
    refine ⟨fun h => ?_, fun h => ?_⟩
    · have hlt : i < n := by omega
      obtain ⟨ad, rfl⟩ : ∃ ad, x = some ad := by
        rcases hN0 with h0 | ⟨ad, h0, _⟩
        · omega
        · exact ⟨ad, h0⟩
      have hx : ∀ {K : TV → HE → Prop}, xext (ctxE Tryz.prog (modEvo 135) w B) (some true) 4 (ad.add (i * 4)) K = K (.agg (nat4 (l i))) .none := fun {K} => hN.nat hlt
      have h1 := plus_e k m (sumM m l i) (l i) hG (sumM_lt hG l i) (hl i)
      clear hN0 hl
      (repeat' ((first | with_reducible (first | apply cF_pure (by assumption) | apply cF_ev (by assumption)) | refine X_of _ ?_ | with_reducible (first | exact ⟨_, rfl⟩ | refine And.intro ?_ ?_ | intro _)) <;> try simp -implicitDefEqProofs (maxSteps := 1000000) (disch := first | exact dz | fail) only [vcR, vcT, simprocAttr, Ab.part, implies_true, forall_const, vcS, vcXAb25, Tryz.f52, hx]))
      refine ⟨i + 1, by omega, ?_⟩
      simp -implicitDefEqProofs (maxSteps := 1000000) (disch := first | exact dz | fail) only [vcR, vcT, simprocAttr, Ab.part, implies_true, forall_const, vcS, vcXAb25, Tryz.f52, again_eq]
      exact ⟨_, rfl, rfl⟩
    · have : i = n := by omega
      subst this
      (repeat' ((first | with_reducible (first | apply cF_pure (by assumption) | apply cF_ev (by assumption) | apply cF_ev (plus_e _ _ _ _ bd bd bd)) | refine X_of _ ?_ | with_reducible (first | exact ⟨_, rfl⟩ | refine And.intro ?_ ?_ | intro _)) <;> try simp -implicitDefEqProofs (maxSteps := 1000000) (disch := first | exact dz | fail) only [vcR, vcT, simprocAttr, Ab.part, implies_true, forall_const, vcS, vcXAb25, Tryz.f52]))
def egc (m last rest s t : Nat) : Nat × Nat := if h : rest = 0 then (last, s) else egc m rest (last % rest) t (msub m s (last / rest * t % m))
termination_by rest
decreasing_by exact Nat.mod_lt _ (Nat.pos_of_ne_zero h)
theorem egc_zero (m last s t : Nat) : egc m last 0 s t = (last, s) := by rw [egc]; simp
theorem egc_step (m last rest s t : Nat) (h : rest ≠ 0) : egc m last rest s t = egc m rest (last % rest) t (msub m s (last / rest * t % m)) := by rw [egc]; simp [h]
def inv (m a : Nat) : Nat := if (egc m m (a % m) 0 1).1 = 1 then (egc m m (a % m) 0 1).2 else 0
def invE (m a : Nat) : Int := if (egc m m (a % m) 0 1).1 = 1 then 0 else 11
theorem egc_lt {m : Nat} (h : OddM m) : ∀ (rest last s t : Nat), s < 2 ^ 256 → t < 2 ^ 256 → (egc m last rest s t).2 < 2 ^ 256 := by
  intro rest
  induction rest using Nat.strongRecOn with
  | ind rest ih =>
    intro last s t hs ht
    by_cases h0 : rest = 0
    · subst h0; rw [egc_zero]; exact hs
    · rw [egc_step _ _ _ _ _ h0]
      exact ih _ (Nat.mod_lt _ (Nat.pos_of_ne_zero h0)) _ _ _ ht (OddM.msub_lt h)
theorem OddM.inv_lt {m a : Nat} (h : OddM m) : inv m a < 2 ^ 256 := by
  unfold inv
  split
  · exact egc_lt h _ _ _ _ (by decide) (by decide)
  · decide
def trQ2n90x2 : Tr := (.cons 6 (.cons 7 (.cons 8 (.cons 9 .nil .nil) .nil) .nil) (.cons 7 (.cons 6 (.cons 8 (.cons 9 .nil .nil) .nil) .nil) .nil))
def trQ2n90x3 : Tr := (.cons 2 (.cons 3 (.cons 4 (.cons 5 .nil .nil) .nil) .nil) (.cons 3 (.cons 2 (.cons 4 (.cons 5 .nil .nil) .nil) .nil) .nil))
def trQ2n90x6 : Tr := (.cons 0 (.cons 1 (.cons 2 (.cons 3 .nil .nil) .nil) (.cons 2 (.cons 1 (.cons 3 .nil .nil) .nil) .nil)) (.cons 1 (.cons 0 (.cons 2 (.cons 3 .nil .nil) .nil) .nil) .nil))
theorem inverse_e (k m a : Nat) (hG : OddM m) (ha : a < 2 ^ 256) :
    EvC (modEvo 135) Tryz.prog 90 [.s (.v (.pointer (some ⟨k, 0, none⟩))), .agg (nat4 a)] (isMod 135 k m) (.tup [.agg (nat4 (inv m a)), .s (.v (.int .i64 (invE m a)))]) := by
  obtain ⟨G, hGe⟩ : ∃ G, egc m m (a % m) 0 1 = G := ⟨_, rfl⟩
  have hi : inv m a = if G.1 = 1 then G.2 else 0 := by rw [← hGe]; rfl
  have he : invE m a = if G.1 = 1 then 0 else 11 := by rw [← hGe]; rfl
  obtain ⟨r, hr⟩ : ∃ r, inv m a = r := ⟨_, rfl⟩
  obtain ⟨e, hee⟩ : ∃ r, invE m a = r := ⟨_, rfl⟩
  rw [hr] at hi
  rw [hee] at he
  rw [hr, hee]
  clear hr hee
  (refine evC_of Tryz.func90 rfl (by simp only [List.length_cons, List.length_nil, List.map_cons, List.map_nil, List.nodup_cons, List.nodup_nil, List.mem_cons, Nat.reduceAdd, Nat.reduceEqDiff, or_false, not_false_eq_true, forall_eq_or_imp, forall_eq, or_self, Nat.reduceLT, Nat.reduceLeDiff, and_self, List.forall_mem_cons, List.not_mem_nil, false_implies, implies_true, and_true, true_and, vcOAb25]) (by simp only [List.length_cons, List.length_nil, List.map_cons, List.map_nil, List.nodup_cons, List.nodup_nil, List.mem_cons, Nat.reduceAdd, Nat.reduceEqDiff, or_false, not_false_eq_true, forall_eq_or_imp, forall_eq, or_self, Nat.reduceLT, Nat.reduceLeDiff, and_self, List.forall_mem_cons, List.not_mem_nil, false_implies, implies_true, and_true, true_and, vcOAb25]) fun B w hpre => ?_; simp only [List.length_cons, List.length_nil, Tryz.ntmps90, Nat.reduceAdd, Nat.reduceSub, List.replicate_succ, List.replicate_zero, List.cons_append, List.nil_append])
  have hM : Kn (ctxE Tryz.prog (modEvo 135) w B) (isMod 135 k m) := Kn.entry (isMod_stays _ k m) hpre
  have hm := hG.lt
  clear hpre
  (repeat' ((first | with_reducible (first | apply XQ_cons | apply XQ_consG | apply XQ_nil | apply XR_cons | apply XR_consG | apply XR_nil | apply XM_cons | apply XM_consG | apply XM_nil | apply cF_pure (by assumption) | apply cV_pure (by assumption) | apply cM_pure (by assumption) | apply cF_ev (by assumption) | apply cV_ev (by assumption) | apply cM_ev (by assumption) | apply cF_pure (div_c _ _ bd bd bd) | apply cV_pure (div_c _ _ bd bd bd) | apply cM_pure (div_c _ _ bd bd bd) | apply cF_ev (M_e _ _) | apply cV_ev (M_e _ _) | apply cM_ev (M_e _ _) | apply cF_ev (minus_e _ _ _ _ bd bd bd) | apply cV_ev (minus_e _ _ _ _ bd bd bd) | apply cM_ev (minus_e _ _ _ _ bd bd bd) | apply cF_ev (plus_e _ _ _ _ bd bd bd) | apply cV_ev (plus_e _ _ _ _ bd bd bd) | apply cM_ev (plus_e _ _ _ _ bd bd bd) | apply cF_ev (times_e _ _ _ _ bd bd bd) | apply cV_ev (times_e _ _ _ _ bd bd bd) | apply cM_ev (times_e _ _ _ _ bd bd bd)) | with_reducible (first | apply gRS (by with_unfolding_all rfl) | apply gR (by with_unfolding_all rfl) | apply gS (by with_unfolding_all rfl) | fail) | (with_reducible apply X_drawM (id := 2) 6 [] trQ2n90x2; (next => (kernel_rfl)); (next => (kernel_rfl))) | (with_reducible apply X_drawM (id := 3) 2 [] trQ2n90x3; (next => (kernel_rfl)); (next => (kernel_rfl))) | (with_reducible apply X_drawM (id := 6) 2 [] (.cons 2 (.cons 3 .nil .nil) .nil); (next => (kernel_rfl)); (next => (kernel_rfl))) | (with_reducible apply X_drawC (id := 7) 8; (next => (kernel_rfl)); (next => (kernel_rfl))) | refine X_of _ ?_ | with_reducible (first | exact ⟨_, rfl⟩ | refine And.intro ?_ ?_ | intro _)) <;> try simp -implicitDefEqProofs (maxSteps := 1000000) (disch := first | exact dz | fail) only [vcR, vcT, simprocAttr, Ab.part, implies_true, forall_const, vcS, vcXAb25, Tryz.f90, trQ2n90x2, trQ2n90x3]))
  rotate_left
  (refine X_permL [0, 1, 2, 3, 4, 6, 5] rfl rfl (by decide) (by decide) (by simp only [List.length_cons, List.length_nil, List.map_cons, List.map_nil, List.nodup_cons, List.nodup_nil, List.mem_cons, Nat.reduceAdd, Nat.reduceEqDiff, or_false, not_false_eq_true, forall_eq_or_imp, forall_eq, or_self, Nat.reduceLT, Nat.reduceLeDiff, and_self, List.forall_mem_cons, List.not_mem_nil, false_implies, implies_true, and_true, true_and, vcOAb25]) ?_; simp only [ren_v, ren_p, ren_sl, ren_undef, ren_tupE, ren_tup, avren_v, avren_p, avren_nat4, ren_nat4, lk_def, pickH_nil, pickH_cons, consH_some, List.map_cons, List.map_nil, List.getD_cons_zero, List.getD_cons_succ, List.getElem?_cons_zero, List.getElem?_cons_succ])
  rotate_left
  (refine X_permL [0, 1, 2, 4, 3, 5, 6] rfl rfl (by decide) (by decide) (by simp only [List.length_cons, List.length_nil, List.map_cons, List.map_nil, List.nodup_cons, List.nodup_nil, List.mem_cons, Nat.reduceAdd, Nat.reduceEqDiff, or_false, not_false_eq_true, forall_eq_or_imp, forall_eq, or_self, Nat.reduceLT, Nat.reduceLeDiff, and_self, List.forall_mem_cons, List.not_mem_nil, false_implies, implies_true, and_true, true_and, vcOAb25]) ?_; simp only [ren_v, ren_p, ren_sl, ren_undef, ren_tupE, ren_tup, avren_v, avren_p, avren_nat4, ren_nat4, lk_def, pickH_nil, pickH_cons, consH_some, List.map_cons, List.map_nil, List.getD_cons_zero, List.getD_cons_succ, List.getElem?_cons_zero, List.getElem?_cons_succ])
  rotate_left
  (refine X_permL [0, 1, 2, 4, 3, 6, 5] rfl rfl (by decide) (by decide) (by simp only [List.length_cons, List.length_nil, List.map_cons, List.map_nil, List.nodup_cons, List.nodup_nil, List.mem_cons, Nat.reduceAdd, Nat.reduceEqDiff, or_false, not_false_eq_true, forall_eq_or_imp, forall_eq, or_self, Nat.reduceLT, Nat.reduceLeDiff, and_self, List.forall_mem_cons, List.not_mem_nil, false_implies, implies_true, and_true, true_and, vcOAb25]) ?_; simp only [ren_v, ren_p, ren_sl, ren_undef, ren_tupE, ren_tup, avren_v, avren_p, avren_nat4, ren_nat4, lk_def, pickH_nil, pickH_cons, consH_some, List.map_cons, List.map_nil, List.getD_cons_zero, List.getD_cons_succ, List.getElem?_cons_zero, List.getElem?_cons_succ])
  rotate_left
  all_goals
    refine X_loop (ι := Nat × Nat × Nat × Nat) (fun i => (i.1 < 2 ^ 256 ∧ i.2.1 < 2 ^ 256 ∧ i.2.2.1 < 2 ^ 256 ∧ i.2.2.2 < 2 ^ 256) ∧ egc m i.1 i.2.1 i.2.2.1 i.2.2.2 = G) (fun i => i.2.1) [11, 12, 13, 23, 24, 25, 26, 27, 28, 29, 30, 31, 32, 33, 34, 35, 36, 37, 38, 39, 40, 41, 42]
      (fun i => [])
      (fun i => [(3, nat4 i.1), (4, nat4 i.2.1), (5, nat4 i.2.2.1), (6, nat4 i.2.2.2)]) (m, a % m, 0, 1) (shape_of fun i => ?_) (by decide) ?_ ?_
    · simp only [List.length_cons, List.length_nil, List.map_cons, List.map_nil, List.nodup_cons, List.nodup_nil, List.mem_cons, Nat.reduceAdd, Nat.reduceEqDiff, or_false, not_false_eq_true, forall_eq_or_imp, forall_eq, or_self, Nat.reduceLT, Nat.reduceLeDiff, and_self, List.forall_mem_cons, List.not_mem_nil, false_implies, implies_true, and_true, true_and, vcOAb25]
    · simp -implicitDefEqProofs (maxSteps := 1000000) (disch := first | exact dz | fail) only [vcR, vcT, simprocAttr, Ab.part, implies_true, forall_const, vcS, vcXAb25, Tryz.f90, again_eq]
      exact ⟨⟨OddM.mod_lt hG, hGe⟩, _, rfl⟩
    · rintro ⟨x, y, s, t⟩ us ⟨⟨hx, hy, hs, ht⟩, hg⟩
      simp only at hx hy hs ht hg ⊢
      by_cases h0 : y = 0
      · subst h0
        rw [egc_zero] at hg
        subst hg
        simp only at hi he
        have e0 : litsEq (lits 4 (wd 0)) (lits 4 (wd 0)) = true := litsEq_self _
        by_cases h1 : x = 1
        · rw [if_pos h1] at hi he
          subst h1 hi he
          have e1 : litsEq (lits 4 (wd 1)) (lits 4 (wd 1)) = true := litsEq_self _
          (repeat' ((first | with_reducible (first | apply XQ_cons | apply XQ_consG | apply XQ_nil | apply XR_cons | apply XR_consG | apply XR_nil | apply XM_cons | apply XM_consG | apply XM_nil | apply cF_pure (by assumption) | apply cV_pure (by assumption) | apply cM_pure (by assumption) | apply cF_ev (by assumption) | apply cV_ev (by assumption) | apply cM_ev (by assumption) | apply cF_pure (div_c _ _ bd bd bd) | apply cV_pure (div_c _ _ bd bd bd) | apply cM_pure (div_c _ _ bd bd bd) | apply cF_ev (M_e _ _) | apply cV_ev (M_e _ _) | apply cM_ev (M_e _ _) | apply cF_ev (minus_e _ _ _ _ bd bd bd) | apply cV_ev (minus_e _ _ _ _ bd bd bd) | apply cM_ev (minus_e _ _ _ _ bd bd bd) | apply cF_ev (plus_e _ _ _ _ bd bd bd) | apply cV_ev (plus_e _ _ _ _ bd bd bd) | apply cM_ev (plus_e _ _ _ _ bd bd bd) | apply cF_ev (times_e _ _ _ _ bd bd bd) | apply cV_ev (times_e _ _ _ _ bd bd bd) | apply cM_ev (times_e _ _ _ _ bd bd bd)) | with_reducible (first | apply gRS (by with_unfolding_all rfl) | apply gR (by with_unfolding_all rfl) | apply gS (by with_unfolding_all rfl) | fail) | (with_reducible apply X_drawM (id := 2) 6 [] trQ2n90x2; (next => (kernel_rfl)); (next => (kernel_rfl))) | (with_reducible apply X_drawM (id := 3) 2 [] trQ2n90x3; (next => (kernel_rfl)); (next => (kernel_rfl))) | (with_reducible apply X_drawM (id := 6) 2 [] (.cons 2 (.cons 3 .nil .nil) .nil); (next => (kernel_rfl)); (next => (kernel_rfl))) | (with_reducible apply X_drawC (id := 7) 8; (next => (kernel_rfl)); (next => (kernel_rfl))) | refine X_of _ ?_ | with_reducible (first | exact ⟨_, rfl⟩ | refine And.intro ?_ ?_ | intro _)) <;> try simp -implicitDefEqProofs (maxSteps := 1000000) (disch := first | exact dz | fail) only [vcR, vcT, simprocAttr, Ab.part, implies_true, forall_const, vcS, vcXAb25, Tryz.f90, e0,e1, trQ2n90x2, trQ2n90x3]))
        · rw [if_neg h1] at hi he
          subst hi he
          have e1 : litsEq (lits 4 (wd x)) (lits 4 (wd 1)) = false := by rw [litsEq_nat4 hx (by decide)]; simp [h1]
          (repeat' ((first | with_reducible (first | apply XQ_cons | apply XQ_consG | apply XQ_nil | apply XR_cons | apply XR_consG | apply XR_nil | apply XM_cons | apply XM_consG | apply XM_nil | apply cF_pure (by assumption) | apply cV_pure (by assumption) | apply cM_pure (by assumption) | apply cF_ev (by assumption) | apply cV_ev (by assumption) | apply cM_ev (by assumption) | apply cF_pure (div_c _ _ bd bd bd) | apply cV_pure (div_c _ _ bd bd bd) | apply cM_pure (div_c _ _ bd bd bd) | apply cF_ev (M_e _ _) | apply cV_ev (M_e _ _) | apply cM_ev (M_e _ _) | apply cF_ev (minus_e _ _ _ _ bd bd bd) | apply cV_ev (minus_e _ _ _ _ bd bd bd) | apply cM_ev (minus_e _ _ _ _ bd bd bd) | apply cF_ev (plus_e _ _ _ _ bd bd bd) | apply cV_ev (plus_e _ _ _ _ bd bd bd) | apply cM_ev (plus_e _ _ _ _ bd bd bd) | apply cF_ev (times_e _ _ _ _ bd bd bd) | apply cV_ev (times_e _ _ _ _ bd bd bd) | apply cM_ev (times_e _ _ _ _ bd bd bd)) | with_reducible (first | apply gRS (by with_unfolding_all rfl) | apply gR (by with_unfolding_all rfl) | apply gS (by with_unfolding_all rfl) | fail) | (with_reducible apply X_drawM (id := 2) 6 [] trQ2n90x2; (next => (kernel_rfl)); (next => (kernel_rfl))) | (with_reducible apply X_drawM (id := 3) 2 [] trQ2n90x3; (next => (kernel_rfl)); (next => (kernel_rfl))) | (with_reducible apply X_drawM (id := 6) 2 [] (.cons 2 (.cons 3 .nil .nil) .nil); (next => (kernel_rfl)); (next => (kernel_rfl))) | (with_reducible apply X_drawC (id := 7) 8; (next => (kernel_rfl)); (next => (kernel_rfl))) | refine X_of _ ?_ | with_reducible (first | exact ⟨_, rfl⟩ | refine And.intro ?_ ?_ | intro _)) <;> try simp -implicitDefEqProofs (maxSteps := 1000000) (disch := first | exact dz | fail) only [vcR, vcT, simprocAttr, Ab.part, implies_true, forall_const, vcS, vcXAb25, Tryz.f90, e0,e1, trQ2n90x2, trQ2n90x3]))
      · rw [egc_step _ _ _ _ _ h0] at hg
        have e0 : litsEq (lits 4 (wd y)) (lits 4 (wd 0)) = false := by rw [litsEq_nat4 hy (by decide)]; simp [h0]
        have hyp : 0 < y := by omega
        have hq : x / y < 2 ^ 256 := Nat.lt_of_le_of_lt (Nat.div_le_self _ _) hx
        have hr : x % y < y := Nat.mod_lt _ hyp
        (repeat' ((first | with_reducible (first | apply XQ_cons | apply XQ_consG | apply XQ_nil | apply XR_cons | apply XR_consG | apply XR_nil | apply XM_cons | apply XM_consG | apply XM_nil | apply cF_pure (by assumption) | apply cV_pure (by assumption) | apply cM_pure (by assumption) | apply cF_ev (by assumption) | apply cV_ev (by assumption) | apply cM_ev (by assumption) | apply cF_pure (div_c _ _ bd bd bd) | apply cV_pure (div_c _ _ bd bd bd) | apply cM_pure (div_c _ _ bd bd bd) | apply cF_ev (M_e _ _) | apply cV_ev (M_e _ _) | apply cM_ev (M_e _ _) | apply cF_ev (minus_e _ _ _ _ bd bd bd) | apply cV_ev (minus_e _ _ _ _ bd bd bd) | apply cM_ev (minus_e _ _ _ _ bd bd bd) | apply cF_ev (plus_e _ _ _ _ bd bd bd) | apply cV_ev (plus_e _ _ _ _ bd bd bd) | apply cM_ev (plus_e _ _ _ _ bd bd bd) | apply cF_ev (times_e _ _ _ _ bd bd bd) | apply cV_ev (times_e _ _ _ _ bd bd bd) | apply cM_ev (times_e _ _ _ _ bd bd bd)) | with_reducible (first | apply gRS (by with_unfolding_all rfl) | apply gR (by with_unfolding_all rfl) | apply gS (by with_unfolding_all rfl) | fail) | (with_reducible apply X_drawM (id := 2) 6 [] trQ2n90x2; (next => (kernel_rfl)); (next => (kernel_rfl))) | (with_reducible apply X_drawM (id := 3) 2 [] trQ2n90x3; (next => (kernel_rfl)); (next => (kernel_rfl))) | (with_reducible apply X_drawM (id := 6) 0 [3, 4] trQ2n90x6; (next => (kernel_rfl)); (next => (kernel_rfl))) | (with_reducible apply X_drawC (id := 7) 8; (next => (kernel_rfl)); (next => (kernel_rfl))) | refine X_of _ ?_ | with_reducible (first | exact ⟨_, rfl⟩ | refine And.intro ?_ ?_ | intro _)) <;> try simp -implicitDefEqProofs (maxSteps := 1000000) (disch := first | exact dz | fail) only [vcR, vcT, simprocAttr, Ab.part, implies_true, forall_const, vcS, vcXAb25, Tryz.f90, e0,xAtM_load, trQ2n90x2, trQ2n90x3, trQ2n90x6]))
        all_goals
          refine ⟨(y, x % y, t, msub m s (x / y * t % m)), hr, ?_⟩
          simp -implicitDefEqProofs (maxSteps := 1000000) (disch := first | exact dz | fail) only [vcR, vcT, simprocAttr, Ab.part, implies_true, forall_const, vcS, vcXAb25, Tryz.f90, again_eq]
          exact ⟨⟨OddM.msub_lt hG, hg⟩, _, rfl⟩
def hrn (m : Nat) (l : Nat → Nat) (n at' : Nat) : Nat → Nat
  | 0 => 0
  | i + 1 => sumM m (two (hrn m l n at' i * at' % m) (l (n - 1 - i))) 2
theorem hrn_lt {m : Nat} (h : OddM m) (l : Nat → Nat) (n a : Nat) : ∀ i, hrn m l n a i < 2 ^ 256
  | 0 => by show 0 < 2 ^ 256; decide
  | i + 1 => sumM_lt h _ _
theorem eval_e (k m : Nat) (x : Option Addr) (n c : Nat) (l : Nat → Nat) (a : Nat) (hG : OddM m) (hl : ∀ i, l i < 2 ^ 256) (ha : a < 2 ^ 256) (hn : n < 9223372036854775808) :
    EvC (modEvo 135) Tryz.prog 27 [.s (.v (.pointer (some ⟨k, 0, none⟩))), .s (.v (.slice x n c)), .agg (nat4 a)] (fun B w => isMod 135 k m B w ∧ natsAt (modEvo 135) x n l B w) (.agg (nat4 (hrn m l n a n))) := by
  (refine evC_of Tryz.func27 rfl (by simp only [List.length_cons, List.length_nil, List.map_cons, List.map_nil, List.nodup_cons, List.nodup_nil, List.mem_cons, Nat.reduceAdd, Nat.reduceEqDiff, or_false, not_false_eq_true, forall_eq_or_imp, forall_eq, or_self, Nat.reduceLT, Nat.reduceLeDiff, and_self, List.forall_mem_cons, List.not_mem_nil, false_implies, implies_true, and_true, true_and, vcOAb25]) (by simp only [List.length_cons, List.length_nil, List.map_cons, List.map_nil, List.nodup_cons, List.nodup_nil, List.mem_cons, Nat.reduceAdd, Nat.reduceEqDiff, or_false, not_false_eq_true, forall_eq_or_imp, forall_eq, or_self, Nat.reduceLT, Nat.reduceLeDiff, and_self, List.forall_mem_cons, List.not_mem_nil, false_implies, implies_true, and_true, true_and, vcOAb25]) fun B w hpre => ?_; simp only [List.length_cons, List.length_nil, Tryz.ntmps27, Nat.reduceAdd, Nat.reduceSub, List.replicate_succ, List.replicate_zero, List.cons_append, List.nil_append])
  have hM : Kn (ctxE Tryz.prog (modEvo 135) w B) (isMod 135 k m) := Kn.entry (isMod_stays _ k m) hpre.1
  have hN : Kn (ctxE Tryz.prog (modEvo 135) w B) (natsAt (modEvo 135) x n l) := Kn.entry (natsAt_stays _ x n l) hpre.2
  have hN0 := hpre.2
  clear hpre
  (repeat' ((first | with_reducible (first | apply XQ_cons | apply XQ_consG | apply XQ_nil | apply XR_cons | apply XR_consG | apply XR_nil | apply cF_pure (by assumption) | apply cV_pure (by assumption) | apply cF_ev (by assumption) | apply cV_ev (by assumption) | apply cF_ev (times_e _ _ _ _ bd bd bd) | apply cV_ev (times_e _ _ _ _ bd bd bd)) | (with_reducible apply X_drawC (id := 5) 13; (next => (kernel_rfl)); (next => (kernel_rfl))) | refine X_of _ ?_ | with_reducible (first | exact ⟨_, rfl⟩ | refine And.intro ?_ ?_ | intro _)) <;> try simp -implicitDefEqProofs (maxSteps := 1000000) (disch := first | exact dz | fail) only [vcR, vcT, simprocAttr, Ab.part, implies_true, forall_const, vcS, vcXAb25, Tryz.f27]))
  refine X_loop (ι := Nat) (fun i => i ≤ n) (fun i => n - i) [8, 11, 12, 13, 14, 15, 16, 17, 18, 19, 20, 21, 22, 23, 24, 25, 26, 27, 28, 29]
    (fun i => [(11, .s (.v (.int .i64 (i : Nat))))])
    (fun i => [(2, nat4 (hrn m l n a i))]) 0 (shape_of fun i => ?_) (by decide) ?_ ?_
  · simp only [List.length_cons, List.length_nil, List.map_cons, List.map_nil, List.nodup_cons, List.nodup_nil, List.mem_cons, Nat.reduceAdd, Nat.reduceEqDiff, or_false, not_false_eq_true, forall_eq_or_imp, forall_eq, or_self, Nat.reduceLT, Nat.reduceLeDiff, and_self, List.forall_mem_cons, List.not_mem_nil, false_implies, implies_true, and_true, true_and, vcOAb25]
  · simp -implicitDefEqProofs (maxSteps := 1000000) (disch := first | exact dz | fail) only [vcR, vcT, simprocAttr, Ab.part, implies_true, forall_const, vcS, vcXAb25, Tryz.f27, again_eq]
    try simp
    all_goals rfl
  · intro i us hi
    by_cases h : i < n
    · obtain ⟨ad, rfl⟩ : ∃ ad, x = some ad := by
        rcases hN0 with h0 | ⟨ad, h0, _⟩
        · omega
        · exact ⟨ad, h0⟩
      have hx : ∀ {K : TV → HE → Prop}, xext (ctxE Tryz.prog (modEvo 135) w B) (some true) 4 (ad.add ((n - 1 - i) * 4)) K = K (.agg (nat4 (l (n - 1 - i)))) .none := fun {K} => hN.nat (by omega)
      have h1 := times_e k m (hrn m l n a i) a hG (hrn_lt hG l n a i) ha
      have hlx := hl (n - 1 - i)
      clear hN0 hl
      have hz : slice0 Tryz.prog 26 2 = some (arr 8 fun _ => 0) := by kernel_rfl
      have ht := fun ad => sum_e k m (some ad) 2 2 (two (hrn m l n a i * a % m) (l (n - 1 - i))) hG (fun j => by unfold two; split; exact hG.mod_lt; exact hlx) (by decide)
      (repeat' ((first | with_reducible (first | apply XQ_cons | apply XQ_consG | apply XQ_nil | apply XR_cons | apply XR_consG | apply XR_nil | apply cF_pure (by assumption) | apply cV_pure (by assumption) | apply cF_ev (by assumption) | apply cV_ev (by assumption)) | (with_reducible apply X_drawC (id := 5) 13; (next => (kernel_rfl)); (next => (kernel_rfl))) | refine X_of _ ?_ | with_reducible (first | exact ⟨_, rfl⟩ | refine And.intro ?_ ?_ | intro _)) <;> try simp -implicitDefEqProofs (maxSteps := 1000000) (disch := first | exact dz | fail) only [vcR, vcT, simprocAttr, Ab.part, implies_true, forall_const, vcS, vcXAb25, Tryz.f27, hx,wi64,st_bs,xbs_some,hz,two_len,two_set]))
      refine yF_evz (fun β w' hR => ⟨_, ht ⟨β 3, 0, none⟩, hM w' hR.fr.to, natsAt_own0 hR rfl (by decide)⟩) rfl rfl (by kernel_rfl) ?_
      (repeat' ((first | with_reducible (first | apply XQ_cons | apply XQ_consG | apply XQ_nil | apply XR_cons | apply XR_consG | apply XR_nil | apply cF_pure (by assumption) | apply cV_pure (by assumption) | apply cF_ev (by assumption) | apply cV_ev (by assumption) | apply cF_ev (times_e _ _ _ _ bd bd bd) | apply cV_ev (times_e _ _ _ _ bd bd bd)) | (with_reducible apply X_drawC (id := 5) 13; (next => (kernel_rfl)); (next => (kernel_rfl))) | refine X_of _ ?_ | with_reducible (first | exact ⟨_, rfl⟩ | refine And.intro ?_ ?_ | intro _)) <;> try simp -implicitDefEqProofs (maxSteps := 1000000) (disch := first | exact dz | fail) only [vcR, vcT, simprocAttr, Ab.part, implies_true, forall_const, vcS, vcXAb25, Tryz.f27, hx]))
      refine ⟨i + 1, by omega, ?_⟩
      simp -implicitDefEqProofs (maxSteps := 1000000) (disch := first | exact dz | fail) only [vcR, vcT, simprocAttr, Ab.part, implies_true, forall_const, vcS, vcXAb25, Tryz.f27, again_eq]
      first | exact ⟨_, rfl, rfl⟩ | exact ⟨_, rfl⟩ | rfl | trace_state
    · have : i = n := by omega
      subst this
      (repeat' ((first | with_reducible (first | apply XQ_cons | apply XQ_consG | apply XQ_nil | apply XR_cons | apply XR_consG | apply XR_nil | apply cF_pure (by assumption) | apply cV_pure (by assumption) | apply cF_ev (by assumption) | apply cV_ev (by assumption) | apply cF_ev (times_e _ _ _ _ bd bd bd) | apply cV_ev (times_e _ _ _ _ bd bd bd)) | (with_reducible apply X_drawC (id := 5) 13; (next => (kernel_rfl)); (next => (kernel_rfl))) | refine X_of _ ?_ | with_reducible (first | exact ⟨_, rfl⟩ | refine And.intro ?_ ?_ | intro _)) <;> try simp -implicitDefEqProofs (maxSteps := 1000000) (disch := first | exact dz | fail) only [vcR, vcT, simprocAttr, Ab.part, implies_true, forall_const, vcS, vcXAb25, Tryz.f27]))
def valN (Q : Nat) (l : Nat → Nat) (n : Nat) (s : Int) : Nat := hrn Q l n (placeN s) n
def rowR (n : Nat) (f : Nat → Nat) (v : TV) (H : Heap) : Prop := ∃ (c : Nat) (sp : List Value), (n ≠ 0 → n ≤ c ∧ sp.length = (c - n) * 4) ∧ v = rowS 0 n c ∧ H = rowH 26 n (nats n f) sp
theorem value_e (k kx kq P Q G : Nat) (x : Option Addr) (n c : Nat) (l : Nat → Nat) (s : Int) (hl : ∀ i, l i < 2 ^ 256) (hn : n < 9223372036854775808) (h1 : -9223372036854775808 ≤ s) (h2 : s < 9223372036854775807) :
    EvC (modEvo 135) Tryz.prog 11 [.s (.v (.pointer (some ⟨k, 0, none⟩))), .s (.v (.slice x n c)), .s (.v (.int .i64 s))] (fun B w => GK k kx kq P Q G B w ∧ natsAt (modEvo 135) x n l B w) (.agg (nat4 (valN Q l n s))) := by
  (refine evC_of Tryz.func11 rfl (by simp only [List.length_cons, List.length_nil, List.map_cons, List.map_nil, List.nodup_cons, List.nodup_nil, List.mem_cons, Nat.reduceAdd, Nat.reduceEqDiff, or_false, not_false_eq_true, forall_eq_or_imp, forall_eq, or_self, Nat.reduceLT, Nat.reduceLeDiff, and_self, List.forall_mem_cons, List.not_mem_nil, false_implies, implies_true, and_true, true_and, vcOHb]) (by simp only [List.length_cons, List.length_nil, List.map_cons, List.map_nil, List.nodup_cons, List.nodup_nil, List.mem_cons, Nat.reduceAdd, Nat.reduceEqDiff, or_false, not_false_eq_true, forall_eq_or_imp, forall_eq, or_self, Nat.reduceLT, Nat.reduceLeDiff, and_self, List.forall_mem_cons, List.not_mem_nil, false_implies, implies_true, and_true, true_and, vcOHb]) fun B w hpre => ?_; simp only [List.length_cons, List.length_nil, Tryz.ntmps11, Nat.reduceAdd, Nat.reduceSub, List.replicate_succ, List.replicate_zero, List.cons_append, List.nil_append])
  have h0 := Kn.entry (P := Tryz.prog) ((isGrp_stays 135 k kx kq P Q G).and (natsAt_stays _ x n l)) hpre
  have hG := h0.left
  have hN := h0.right
  have hMQ : Kn (ctxE Tryz.prog (modEvo 135) w B) (isMod 135 kq Q) := hG.gmq
  obtain ⟨hOP, hOQ⟩ := hG.gOdd
  have hp : placeN s < 2 ^ 256 := by unfold placeN; omega
  have e1 := gQ_e k kx kq P Q G
  have e2 := place_c s h1 h2
  have e3 := eval_e kq Q x n c l (placeN s) hOQ hl hp hn
  unfold valN
  obtain ⟨r, hr⟩ : ∃ r, hrn Q l n (placeN s) n = r := ⟨_, rfl⟩
  obtain ⟨p, hpp⟩ : ∃ p, placeN s = p := ⟨_, rfl⟩
  rw [hr] at e3 ⊢
  rw [hpp] at e2 e3 hp
  clear hpre h0 hr hpp hl
  (repeat' ((first | with_reducible (first | apply cF_pure3 (by assumption) | apply cF_ev3 (by assumption)) | refine X_of _ ?_ | with_reducible (first | exact ⟨_, rfl⟩ | refine And.intro ?_ ?_ | intro _)) <;> try simp -implicitDefEqProofs (maxSteps := 1000000) (disch := first | exact dz3 | fail) only [vcR, vcT, simprocAttr, Ab.part, implies_true, forall_const, vcS, vcXHb, Tryz.f11]))
theorem opens_e (k kx kq P Q G : Nat) (x : Option Addr) (n c : Nat) (l : Nat → Nat) (a : Nat) (hP2 : P < 2 ^ 256) (hG2 : G < 2 ^ 256) (hl : ∀ i, l i < 2 ^ 256) (hn : n < 9223372036854775808) (ha : a < 2 ^ 256) :
    EvC (modEvo 135) Tryz.prog 17 [.s (.v (.pointer (some ⟨k, 0, none⟩))), .s (.v (.slice x n c)), .agg (nat4 a)] (fun B w => GK k kx kq P Q G B w ∧ natsAt (modEvo 135) x n l B w)
      (.s (.v (.bool (decide (0 < n) && decide (a < Q) && decide (G ^ a % P = l 0))))) := by
  (refine evC_of Tryz.func17 rfl (by simp only [List.length_cons, List.length_nil, List.map_cons, List.map_nil, List.nodup_cons, List.nodup_nil, List.mem_cons, Nat.reduceAdd, Nat.reduceEqDiff, or_false, not_false_eq_true, forall_eq_or_imp, forall_eq, or_self, Nat.reduceLT, Nat.reduceLeDiff, and_self, List.forall_mem_cons, List.not_mem_nil, false_implies, implies_true, and_true, true_and, vcOHb]) (by simp only [List.length_cons, List.length_nil, List.map_cons, List.map_nil, List.nodup_cons, List.nodup_nil, List.mem_cons, Nat.reduceAdd, Nat.reduceEqDiff, or_false, not_false_eq_true, forall_eq_or_imp, forall_eq, or_self, Nat.reduceLT, Nat.reduceLeDiff, and_self, List.forall_mem_cons, List.not_mem_nil, false_implies, implies_true, and_true, true_and, vcOHb]) fun B w hpre => ?_; simp only [List.length_cons, List.length_nil, Tryz.ntmps17, Nat.reduceAdd, Nat.reduceSub, List.replicate_succ, List.replicate_zero, List.cons_append, List.nil_append])
  have hN0 := hpre.2
  have h0 := Kn.entry (P := Tryz.prog) ((isGrp_stays 135 k kx kq P Q G).and (natsAt_stays _ x n l)) hpre
  have hG := h0.left
  have hN := h0.right
  obtain ⟨hOP, hOQ⟩ := hG.gOdd
  have e1 := below_e k kx kq P Q G a ha
  have e2 := gBase_e k kx kq P Q G a hG2 ha
  have hr2 : G ^ a % P < 2 ^ 256 := hOP.mod_lt
  have hl0 := hl 0
  obtain ⟨r, hr⟩ : ∃ r, G ^ a % P = r := ⟨_, rfl⟩
  rw [hr] at e2 hr2 ⊢
  clear hpre h0 hr hl
  by_cases hn0 : 0 < n
  · obtain ⟨ad, rfl⟩ : ∃ ad, x = some ad := by
      rcases hN0 with h0 | ⟨ad, h0, _⟩
      · omega
      · exact ⟨ad, h0⟩
    have hni : (n : Int) > 0 := by omega
    have hx : ∀ {K : TV → HE → Prop}, xext (ctxE Tryz.prog (modEvo 135) w B) (some true) 4 (ad.add (0 * 4)) K = K (.agg (nat4 (l 0))) .none := fun {K} => hN.nat hn0
    rw [decide_eq_true hn0]
    cases hb : decide (a < Q) with
    | true =>
      rw [hb] at e1
      clear hb hN0
      (repeat' ((first | with_reducible (first | apply XQ_cons | apply XQ_consG | apply XQ_nil | apply XR_cons | apply XR_consG | apply XR_nil | apply cF_pure3 (by assumption) | apply cV_pure3 (by assumption) | apply cF_ev3 (by assumption) | apply cV_ev3 (by assumption)) | (with_reducible apply X_drawC (id := 1) 18; (next => (kernel_rfl)); (next => (kernel_rfl))) | refine X_of _ ?_ | with_reducible (first | exact ⟨_, rfl⟩ | refine And.intro ?_ ?_ | intro _)) <;> try simp -implicitDefEqProofs (maxSteps := 1000000) (disch := first | exact dz3 | fail) only [vcR, vcT, simprocAttr, Ab.part, implies_true, forall_const, vcS, vcXHb, Tryz.f17, hx,hni,hn0,Nat.zero_mul]))
      all_goals simp
    | false =>
      rw [hb] at e1
      clear hb hN0
      (repeat' ((first | with_reducible (first | apply XQ_cons | apply XQ_consG | apply XQ_nil | apply XR_cons | apply XR_consG | apply XR_nil | apply cF_pure3 (by assumption) | apply cV_pure3 (by assumption) | apply cF_ev3 (by assumption) | apply cV_ev3 (by assumption)) | (with_reducible apply X_drawC (id := 1) 18; (next => (kernel_rfl)); (next => (kernel_rfl))) | refine X_of _ ?_ | with_reducible (first | exact ⟨_, rfl⟩ | refine And.intro ?_ ?_ | intro _)) <;> try simp -implicitDefEqProofs (maxSteps := 1000000) (disch := first | exact dz3 | fail) only [vcR, vcT, simprocAttr, Ab.part, implies_true, forall_const, vcS, vcXHb, Tryz.f17, hx,hni,hn0,Nat.zero_mul]))
      all_goals simp
  · have hni : ¬ (n : Int) > 0 := by omega
    rw [decide_eq_false hn0]
    clear hN0
    (repeat' ((first | with_reducible (first | apply XQ_cons | apply XQ_consG | apply XQ_nil | apply XR_cons | apply XR_consG | apply XR_nil | apply cF_pure3 (by assumption) | apply cV_pure3 (by assumption) | apply cF_ev3 (by assumption) | apply cV_ev3 (by assumption)) | (with_reducible apply X_drawC (id := 1) 18; (next => (kernel_rfl)); (next => (kernel_rfl))) | refine X_of _ ?_ | with_reducible (first | exact ⟨_, rfl⟩ | refine And.intro ?_ ?_ | intro _)) <;> try simp -implicitDefEqProofs (maxSteps := 1000000) (disch := first | exact dz3 | fail) only [vcR, vcT, simprocAttr, Ab.part, implies_true, forall_const, vcS, vcXHb, Tryz.f17, hni]))
    all_goals simp
end Go.Proofs.YtdmcknmjdlghgaaGreatDoor
