/-
  group: Exp, Times.
-/
import Derived.Test.YtdmcknmjdlghgaaDoorT01
import Derived.Test.YtdmcknmjdlghgaaDoorT02
import Derived.Test.YtdmcknmjdlghgaaDoorT03
import Derived.Test.YtdmcknmjdlghgaaDoorT05
import Derived.Test.YtdmcknmjdlghgaaDoorT06
import Derived.Test.YtdmcknmjdlghgaaDoorT12
namespace Go.Proofs.YtdmcknmjdlghgaaDoor
open Go Go.Ab
set_option linter.unusedSimpArgs false
set_option linter.unusedVariables false
set_option linter.defProp false
set_option maxHeartbeats 20000000
set_option maxRecDepth 100000
theorem gTimes_e (k kx kq P Q G a b : Nat) (hP2 : P < 2 ^ 256) (hQ2 : Q < 2 ^ 256) (ha : a < 2 ^ 256) (hb : b < 2 ^ 256) :
    EvC (modEvo 108) Tryd.prog 26 [.s (.v (.pointer (some ⟨k, 0, none⟩))), .agg (nat4 a), .agg (nat4 b)]
      (fun B w => GK k kx kq P Q G B w ∧ oneK B w) (.tup [.agg (nat4 (muV P Q 2 2 (two a b) (two 1 1))), .s (.v (.int .i64 (muE P Q 2 2 (two a b))))]) := by
  have hm := fun x y => gMulti_e x y 2 2 2 2 (two a b) (two 1 1) k kx kq P Q G hP2 hQ2 (fun i => by unfold two; split <;> assumption) (fun i => by unfold two; split <;> decide) (by decide) (by decide)
  obtain ⟨v, hv⟩ : ∃ v, muV P Q 2 2 (two a b) (two 1 1) = v := ⟨_, rfl⟩
  obtain ⟨e, he⟩ : ∃ e, muE P Q 2 2 (two a b) = e := ⟨_, rfl⟩
  rw [hv, he] at hm ⊢
  clear hv he
  (refine evC_of Tryd.func26 rfl (by simp only [List.length_cons, List.length_nil, List.map_cons, List.map_nil, List.nodup_cons, List.nodup_nil, List.mem_cons, Nat.reduceAdd, Nat.reduceEqDiff, or_false, not_false_eq_true, forall_eq_or_imp, forall_eq, or_self, Nat.reduceLT, Nat.reduceLeDiff, and_self, List.forall_mem_cons, List.not_mem_nil, false_implies, implies_true, and_true, true_and, vcOGb]) (by simp only [List.length_cons, List.length_nil, List.map_cons, List.map_nil, List.nodup_cons, List.nodup_nil, List.mem_cons, Nat.reduceAdd, Nat.reduceEqDiff, or_false, not_false_eq_true, forall_eq_or_imp, forall_eq, or_self, Nat.reduceLT, Nat.reduceLeDiff, and_self, List.forall_mem_cons, List.not_mem_nil, false_implies, implies_true, and_true, true_and, vcOGb]) fun B w hpre => ?_; simp only [List.length_cons, List.length_nil, Tryd.ntmps26, Nat.reduceAdd, Nat.reduceSub, List.replicate_succ, List.replicate_zero, List.cons_append, List.nil_append])
  have h0 := Kn.entry (P := Tryd.prog) ((isGrp_stays 108 k kx kq P Q G).and oneK_stays) hpre
  clear hpre
  have h11 : ∀ {K : TV → HE → Prop}, xext (ctxE Tryd.prog (modEvo 108) w B) (some true) 4 ⟨2, 0, none⟩ K = K (.agg (nat4 1)) .none := fun {K} => Kn.one1 h0.right
  have hz : slice0 Tryd.prog 24 2 = some (arr 8 fun _ => 0) := by kernel_rfl
  (repeat' ((first | with_reducible (first | apply XR_cons | apply XR_consG | apply XR_nil | apply cF_pure2 (by assumption) | apply cF_ev2 (by assumption)) | with_reducible (first | apply gRS (by with_unfolding_all rfl) | apply gR (by with_unfolding_all rfl) | apply gS (by with_unfolding_all rfl) | fail) | refine X_of _ ?_ | with_reducible (first | exact ⟨_, rfl⟩ | refine And.intro ?_ ?_ | intro _)) <;> try simp -implicitDefEqProofs (maxSteps := 1000000) (disch := first | exact dz2 | fail) only [vcR, vcT, simprocAttr, Ab.part, implies_true, forall_const, true_or, Option.isNone_some, Option.isNone_none, vcXGb, Tryd.f26, List.toList_toArray, arr4_zero, nat4_set1, nat4_setL, nat4_set0, st_bs,xbs_some,hz,two_len,two_set,h11]))
  refine yF_evz (fun β w' hR => ⟨_, hm (some ⟨β 3, 0, none⟩) (some ⟨β 4, 0, none⟩), ⟨natsAt_own0 hR rfl (by decide), natsAt_own0 hR rfl (by decide)⟩, h0 w' hR.fr.to⟩) rfl rfl (by kernel_rfl) ?_
  (repeat' ((first | with_reducible (first | apply XR_cons | apply XR_consG | apply XR_nil | apply cF_pure2 (by assumption) | apply cF_ev2 (by assumption)) | with_reducible (first | apply gRS (by with_unfolding_all rfl) | apply gR (by with_unfolding_all rfl) | apply gS (by with_unfolding_all rfl) | fail) | refine X_of _ ?_ | with_reducible (first | exact ⟨_, rfl⟩ | refine And.intro ?_ ?_ | intro _)) <;> try simp -implicitDefEqProofs (maxSteps := 1000000) (disch := first | exact dz2 | fail) only [vcR, vcT, simprocAttr, Ab.part, implies_true, forall_const, true_or, Option.isNone_some, Option.isNone_none, vcXGb, Tryd.f26, List.toList_toArray, arr4_zero, nat4_set1, nat4_setL, nat4_set0]))
end Go.Proofs.YtdmcknmjdlghgaaDoor
