/-
  ShareFlat: of one coefficient each share is the secret.
-/
import Derived.Test.YtdmcknmjdlghgaaDoorT01
import Derived.Test.YtdmcknmjdlghgaaDoorT02
import Derived.Test.YtdmcknmjdlghgaaDoorT03
import Derived.Test.YtdmcknmjdlghgaaDoorT05
import Derived.Test.YtdmcknmjdlghgaaDoorT06
import Derived.Test.YtdmcknmjdlghgaaDoorT07
import Derived.Test.YtdmcknmjdlghgaaDoorT10
import Derived.Test.YtdmcknmjdlghgaaDoorT12
import Derived.Test.YtdmcknmjdlghgaaDoorT14
import Derived.Test.YtdmcknmjdlghgaaDoorT15
import Derived.Test.YtdmcknmjdlghgaaDoorT16
import Derived.Test.YtdmcknmjdlghgaaDoorT17
namespace Go.Proofs.YtdmcknmjdlghgaaDoor
open Go Go.Ab
set_option linter.unusedSimpArgs false
set_option linter.unusedVariables false
set_option linter.defProp false
set_option maxHeartbeats 20000000
set_option maxRecDepth 100000
def trHW1n11x16 : Tr := (.cons 15 (.cons 16 (.cons 17 (.cons 18 (.cons 19 (.cons 20 (.cons 21 .nil .nil) .nil) .nil) .nil) .nil) (.cons 17 (.cons 16 (.cons 18 (.cons 19 (.cons 20 (.cons 21 .nil .nil) .nil) .nil) .nil) .nil) .nil)) (.cons 16 (.cons 15 (.cons 17 (.cons 18 (.cons 19 (.cons 20 (.cons 21 .nil .nil) .nil) .nil) .nil) .nil) (.cons 17 (.cons 15 (.cons 18 (.cons 19 (.cons 20 (.cons 21 .nil .nil) .nil) .nil) .nil) .nil) .nil)) (.cons 17 (.cons 15 (.cons 16 (.cons 18 (.cons 19 (.cons 20 (.cons 21 .nil .nil) .nil) .nil) .nil) .nil) (.cons 16 (.cons 15 (.cons 18 (.cons 19 (.cons 20 (.cons 21 .nil .nil) .nil) .nil) .nil) .nil) .nil)) .nil)))
theorem shareFlat_m (z : Int) (hz : IntKind.i64.min ≤ z ∧ z ≤ IntKind.i64.max) (x : Nat) (hx : x < 2 ^ 256) (s : Int) (hs : IntKind.i64.min ≤ s ∧ s ≤ IntKind.i64.max) :
    PureM Tryd.prog 11 [.s (.v (.int .i64 z)), .agg (nat4 x), .s (.v (.int .i64 s))] gv (.s (.v (.bool true))) := by
  clear hz hs
  have hsm := lsmall_g z
  have hok := sm_ok z
  obtain ⟨P, hP⟩ : ∃ P, smP z = P := ⟨_, rfl⟩
  obtain ⟨Q, hQ⟩ : ∃ Q, smQ z = Q := ⟨_, rfl⟩
  have hQ10 : 10 < Q := by rw [← hQ]; exact smQ_10 z
  rw [hP, hQ] at hsm hok
  clear hP hQ
  have haw := shawake_m.ev (V := Evo.none)
  (refine pureM_of Tryd.func11 rfl (by simp only [List.length_cons, List.length_nil, List.map_cons, List.map_nil, List.nodup_cons, List.nodup_nil, List.mem_cons, Nat.reduceAdd, Nat.reduceEqDiff, or_false, not_false_eq_true, forall_eq_or_imp, forall_eq, or_self, Nat.reduceLT, Nat.reduceLeDiff, and_self, List.forall_mem_cons, List.not_mem_nil, false_implies, implies_true, and_true, true_and, vcOHb]) (by simp only [List.length_cons, List.length_nil, List.map_cons, List.map_nil, List.nodup_cons, List.nodup_nil, List.mem_cons, Nat.reduceAdd, Nat.reduceEqDiff, or_false, not_false_eq_true, forall_eq_or_imp, forall_eq, or_self, Nat.reduceLT, Nat.reduceLeDiff, and_self, List.forall_mem_cons, List.not_mem_nil, false_implies, implies_true, and_true, true_and, vcOHb]) fun w hpre => ?_; simp only [List.length_cons, List.length_nil, Tryd.ntmps11, Nat.reduceAdd, Nat.reduceSub, List.replicate_succ, List.replicate_zero, List.cons_append, List.nil_append])
  have hgv := gv_kn (P0 := Tryd.prog) hpre
  (repeat' ((first | with_reducible (first | apply XQ_cons | apply XQ_consG | apply XQ_nil | apply XR_cons | apply XR_consG | apply XR_nil | apply XM_cons | apply XM_consG | apply XM_nil | apply cF_pure3 (by assumption) | apply cV_pure3 (by assumption) | apply cM_pure3 (by assumption) | apply cF_ev3 (by assumption) | apply cV_ev3 (by assumption) | apply cM_ev3 (by assumption) | apply cF_ev3 (plus_e _ _ _ _ bd3 bd3 bd3) | apply cV_ev3 (plus_e _ _ _ _ bd3 bd3 bd3) | apply cM_ev3 (plus_e _ _ _ _ bd3 bd3 bd3)) | with_reducible (first | apply gRS (by with_unfolding_all rfl) | apply gR (by with_unfolding_all rfl) | apply gS (by with_unfolding_all rfl) | fail) | (with_reducible apply X_drawC (id := 13) 8; (next => (kernel_rfl)); (next => (kernel_rfl))) | (with_reducible apply X_drawM (id := 16) 15 [] trHW1n11x16; (next => (kernel_rfl)); (next => (kernel_rfl))) | refine X_of _ ?_ | with_reducible (first | exact ⟨_, rfl⟩ | refine And.intro ?_ ?_ | intro _)) <;> try simp -implicitDefEqProofs (maxSteps := 1000000) (disch := first | exact dz3 | fail) only [vcR, vcT, simprocAttr, Ab.part, implies_true, forall_const, true_or, Option.isNone_some, Option.isNone_none, vcXHb, Tryd.f11, List.toList_toArray, arr4_zero, nat4_set1, nat4_setL, nat4_set0, trHW1n11x16]))
  refine yF_lsmall (N := 1) hsm hgv rfl (fun _ h => h) rfl ?_
  intro bx bq
  (try (first | with_reducible refine X_regRS ?_ | with_reducible refine X_regR ?_ | (with_reducible refine X_seqX ?_; with_reducible refine X_blockX ?_; with_reducible refine X_regR ?_))); (repeat ((first | with_reducible refine XR_make ?_ | with_reducible refine XR_append ?_ | with_reducible refine XR_cons ?_ | with_reducible refine XR_consG ?_ | with_reducible refine XR_nil ?_); try simp -implicitDefEqProofs (maxSteps := 1000000) (disch := first | exact dz3 | fail) only [vcR, vcT, simprocAttr, Ab.part, implies_true, forall_const, true_or, Option.isNone_some, Option.isNone_none, vcXHb, Tryd.f11, List.toList_toArray]))
  refine X_grp 1 2 3 [0] rfl rfl rfl hok.gr.1 hok.gr.2.1 (by decide) (by simp) (by simp) (by simp) (by simp [pickH_cons, pickH_nil, consH_some]) fun β1 w1 hR1 hG hK => ?_
  have hO := gv_one hpre hR1 (L := [0]) (fun i hi => by simp at hi ⊢; omega)
  clear hR1 hK hgv hpre haw hsm
  simp -implicitDefEqProofs (maxSteps := 1000000) (disch := first | exact dz3 | fail) only [vcR, vcT, simprocAttr, Ab.part, implies_true, forall_const, true_or, Option.isNone_some, Option.isNone_none, vcXHb, Tryd.f11, List.toList_toArray]
  obtain ⟨k, hk⟩ : ∃ k, β1 1 = k := ⟨_, rfl⟩
  obtain ⟨kx, hkx⟩ : ∃ k, β1 2 = k := ⟨_, rfl⟩
  obtain ⟨kq, hkq⟩ : ∃ k, β1 3 = k := ⟨_, rfl⟩
  rw [hk, hkx, hkq] at hG
  have hOQ := hok.gr.2.1
  have hP2 := hok.gr.1.lt
  have hQ2 := hOQ.lt
  by_cases hs0 : s < 0
  · (repeat' ((first | with_reducible (first | apply XQ_cons | apply XQ_consG | apply XQ_nil | apply XR_cons | apply XR_consG | apply XR_nil | apply XM_cons | apply XM_consG | apply XM_nil | apply cF_pure3 (by assumption) | apply cV_pure3 (by assumption) | apply cM_pure3 (by assumption) | apply cF_ev3 (by assumption) | apply cV_ev3 (by assumption) | apply cM_ev3 (by assumption) | apply cF_ev3 (plus_e _ _ _ _ bd3 bd3 bd3) | apply cV_ev3 (plus_e _ _ _ _ bd3 bd3 bd3) | apply cM_ev3 (plus_e _ _ _ _ bd3 bd3 bd3)) | with_reducible (first | apply gRS (by with_unfolding_all rfl) | apply gR (by with_unfolding_all rfl) | apply gS (by with_unfolding_all rfl) | fail) | (with_reducible apply X_drawC (id := 13) 8; (next => (kernel_rfl)); (next => (kernel_rfl))) | (with_reducible apply X_drawM (id := 16) 15 [] trHW1n11x16; (next => (kernel_rfl)); (next => (kernel_rfl))) | refine X_of _ ?_ | with_reducible (first | exact ⟨_, rfl⟩ | refine And.intro ?_ ?_ | intro _)) <;> try simp -implicitDefEqProofs (maxSteps := 1000000) (disch := first | exact dz3 | fail) only [vcR, vcT, simprocAttr, Ab.part, implies_true, forall_const, true_or, Option.isNone_some, Option.isNone_none, vcXHb, Tryd.f11, List.toList_toArray, arr4_zero, nat4_set1, nat4_setL, nat4_set0, hs0, trHW1n11x16]))
  · by_cases hs9 : s > 9
    · (repeat' ((first | with_reducible (first | apply XQ_cons | apply XQ_consG | apply XQ_nil | apply XR_cons | apply XR_consG | apply XR_nil | apply XM_cons | apply XM_consG | apply XM_nil | apply cF_pure3 (by assumption) | apply cV_pure3 (by assumption) | apply cM_pure3 (by assumption) | apply cF_ev3 (by assumption) | apply cV_ev3 (by assumption) | apply cM_ev3 (by assumption) | apply cF_ev3 (plus_e _ _ _ _ bd3 bd3 bd3) | apply cV_ev3 (plus_e _ _ _ _ bd3 bd3 bd3) | apply cM_ev3 (plus_e _ _ _ _ bd3 bd3 bd3)) | with_reducible (first | apply gRS (by with_unfolding_all rfl) | apply gR (by with_unfolding_all rfl) | apply gS (by with_unfolding_all rfl) | fail) | (with_reducible apply X_drawC (id := 13) 8; (next => (kernel_rfl)); (next => (kernel_rfl))) | (with_reducible apply X_drawM (id := 16) 15 [] trHW1n11x16; (next => (kernel_rfl)); (next => (kernel_rfl))) | refine X_of _ ?_ | with_reducible (first | exact ⟨_, rfl⟩ | refine And.intro ?_ ?_ | intro _)) <;> try simp -implicitDefEqProofs (maxSteps := 1000000) (disch := first | exact dz3 | fail) only [vcR, vcT, simprocAttr, Ab.part, implies_true, forall_const, true_or, Option.isNone_some, Option.isNone_none, vcXHb, Tryd.f11, List.toList_toArray, arr4_zero, nat4_set1, nat4_setL, nat4_set0, hs0,hs9, trHW1n11x16]))
    · obtain ⟨i, rfl⟩ : ∃ i : Nat, s = i := ⟨s.toNat, by omega⟩
      have hi9 : i < 10 := by omega
      have hN0 : NeZero Q := ⟨by omega⟩
      have e1 := fun ad => deal_n k kx kq P Q 4 (some ad) 1 1 10 (fun _ => x) (by decide) (fun _ => hx) (by decide) (by decide) (by decide) (by decide) hQ10
      have hv : (fun j : Nat => valN Q (fun _ => x) 1 (j : Int)) = fun _ => x % Q := funext fun j => valN_one _ _
      have hf := flat_law hok (c := comN P 4 fun _ => x) (A := fun _ => x % Q) (S := fun _ => (i : Int)) (x := x) rfl rfl (by omega) (by omega) (by unfold placeN; omega)
      have hy2 : x % Q < 2 ^ 256 := hOQ.mod_lt
      have hc2 : ∀ j, comN P 4 (fun _ => x) j < 2 ^ 256 := fun j => hok.gr.1.mod_lt
      have e2 := fun u v y => recover_e k kx kq P Q 4 (some u) 1 v (comN P 4 fun _ => x) (some y) 1 1 (fun _ => (i : Int)) (fun _ => x % Q) hP2 hQ2 (by decide) hc2 (fun _ => hy2) (fun _ => by omega) (by decide) (by decide)
      rw [hf.1, hf.2] at e2
      have e3 := gQ_e k kx kq P Q 4
      have e4 := plus_e kq Q x 0 hOQ hx (by decide)
      rw [Nat.add_zero] at e4
      rw [hv] at e1
      obtain ⟨y, hy⟩ : ∃ y, x % Q = y := ⟨_, rfl⟩
      obtain ⟨f, hfc⟩ : ∃ f, comN P 4 (fun _ => x) = f := ⟨_, rfl⟩
      rw [hy] at hy2
      simp only [hy] at e1 e2 e4
      rw [hfc] at e1
      simp only [hfc] at e2
      clear hv hf hy hfc hc2 hok hQ10 hN0
      (repeat' ((first | with_reducible (first | apply XQ_cons | apply XQ_consG | apply XQ_nil | apply XR_cons | apply XR_consG | apply XR_nil | apply XM_cons | apply XM_consG | apply XM_nil | apply cF_pure3 (by assumption) | apply cV_pure3 (by assumption) | apply cM_pure3 (by assumption) | apply cF_ev3 (by assumption) | apply cV_ev3 (by assumption) | apply cM_ev3 (by assumption) | apply cF_ev3 (plus_e _ _ _ _ bd3 bd3 bd3) | apply cV_ev3 (plus_e _ _ _ _ bd3 bd3 bd3) | apply cM_ev3 (plus_e _ _ _ _ bd3 bd3 bd3)) | with_reducible (first | apply gRS (by with_unfolding_all rfl) | apply gR (by with_unfolding_all rfl) | apply gS (by with_unfolding_all rfl) | fail) | (with_reducible apply X_drawC (id := 13) 8; (next => (kernel_rfl)); (next => (kernel_rfl))) | (with_reducible apply X_drawM (id := 16) 15 [] trHW1n11x16; (next => (kernel_rfl)); (next => (kernel_rfl))) | refine X_of _ ?_ | with_reducible (first | exact ⟨_, rfl⟩ | refine And.intro ?_ ?_ | intro _)) <;> try simp -implicitDefEqProofs (maxSteps := 1000000) (disch := first | exact dz3 | fail) only [vcR, vcT, simprocAttr, Ab.part, implies_true, forall_const, true_or, Option.isNone_some, Option.isNone_none, vcXHb, Tryd.f11, List.toList_toArray, arr4_zero, nat4_set1, nat4_setL, nat4_set0, st_bs,xbs_some,ghz1,gone_set,hk, trHW1n11x16]))
      refine xcall_evn (by kernel_rfl) (fun β w' hR => ⟨_, e1 ⟨β 1, 0, none⟩, hG w' hR.fr.to, natsAt_own0 hR rfl (by decide)⟩) ?_
      rintro _ _ ⟨c1, sp1, c2, sp2, hc1, hc2, rfl, rfl⟩
      try simp -implicitDefEqProofs (maxSteps := 1000000) (disch := first | exact dz3 | fail) only [vcR, vcT, simprocAttr, Ab.part, implies_true, forall_const, true_or, Option.isNone_some, Option.isNone_none, vcXHb, Tryd.f11, List.toList_toArray]
      (try (first | with_reducible refine X_regRS ?_ | with_reducible refine X_regR ?_ | (with_reducible refine X_seqX ?_; with_reducible refine X_blockX ?_; with_reducible refine X_regR ?_))); (repeat ((first | with_reducible refine XR_make ?_ | with_reducible refine XR_append ?_ | with_reducible refine XR_cons ?_ | with_reducible refine XR_consG ?_ | with_reducible refine XR_nil ?_); try simp -implicitDefEqProofs (maxSteps := 1000000) (disch := first | exact dz3 | fail) only [vcR, vcT, simprocAttr, Ab.part, implies_true, forall_const, true_or, Option.isNone_some, Option.isNone_none, vcXHb, Tryd.f11, List.toList_toArray]))
      refine X_rebase (modEvo 108) w.heap.size [0] (by decide) (by simp) rfl (.inl ⟨rfl, rfl⟩) (fun _ h => h) (by
        intro i hi b hb
        simp only [List.mem_cons, List.not_mem_nil, or_false] at hi
        subst hi
        injection hb with hb
        subst hb
        show ¬ (24 = 108)
        decide) fun β2 w2 hR2 => ?_
      have hG2 : Kn (((ctx0 Tryd.prog w).after (modEvo 108) w.heap.size w1 β1 [0]).after (modEvo 108) w.heap.size w2 β2 [0]) (GK k kx kq P Q 4) := hG.after (L := [0]) hR2 (by simp)
      have hO2 : Kn (((ctx0 Tryd.prog w).after (modEvo 108) w.heap.size w1 β1 [0]).after (modEvo 108) w.heap.size w2 β2 [0]) oneK := hO.after (L := [0]) hR2 (by simp)
      have hC : Kn (((ctx0 Tryd.prog w).after (modEvo 108) w.heap.size w1 β1 [0]).after (modEvo 108) w.heap.size w2 β2 [0]) (natsAt (modEvo 108) (some ⟨β2 2, 0, none⟩) 1 f) := natsAt_gone (T0 := 108) (B := w.heap.size) (L := [0]) (j := 2) (sp := sp1.map SV.v) hR2 rfl (by simp) (by simp) (by decide)
      have hS : Kn (((ctx0 Tryd.prog w).after (modEvo 108) w.heap.size w1 β1 [0]).after (modEvo 108) w.heap.size w2 β2 [0]) (natsAt (modEvo 108) (some ⟨β2 3, 0, none⟩) 10 fun _ => y) := natsAt_gone (T0 := 108) (B := w.heap.size) (L := [0]) (j := 3) (sp := sp2.map SV.v) hR2 rfl (by simp) (by simp) (by decide)
      have hMQ : Kn (((ctx0 Tryd.prog w).after (modEvo 108) w.heap.size w1 β1 [0]).after (modEvo 108) w.heap.size w2 β2 [0]) (isMod 108 kq Q) := hG2.gmq
      clear hR2 hG hO e1
      simp -implicitDefEqProofs (maxSteps := 1000000) (disch := first | exact dz3 | fail) only [vcR, vcT, simprocAttr, Ab.part, implies_true, forall_const, true_or, Option.isNone_some, Option.isNone_none, vcXHb, Tryd.f11, List.toList_toArray]
      obtain ⟨jc, hjc⟩ : ∃ j, β2 2 = j := ⟨_, rfl⟩
      obtain ⟨js, hjs⟩ : ∃ j, β2 3 = j := ⟨_, rfl⟩
      rw [hjc] at hC
      rw [hjs] at hS
      have e2 := fun ad => e2 ⟨jc, 0, none⟩ c1 ad
      have hx : ∀ {q : Nat} {K : TV → HE → Prop}, q < 10 → xext (((ctx0 Tryd.prog w).after (modEvo 108) w.heap.size w1 β1 [0]).after (modEvo 108) w.heap.size w2 β2 [0]) (some true) 4 ((⟨js, 0, none⟩ : Addr).add (q * 4)) K = K (.agg (nat4 y)) .none := fun {q K} hq => hS.nat hq
      (repeat' ((first | with_reducible (first | apply XQ_cons | apply XQ_consG | apply XQ_nil | apply XR_cons | apply XR_consG | apply XR_nil | apply XM_cons | apply XM_consG | apply XM_nil | apply cF_pure3 (by assumption) | apply cV_pure3 (by assumption) | apply cM_pure3 (by assumption) | apply cF_ev3 (by assumption) | apply cV_ev3 (by assumption) | apply cM_ev3 (by assumption) | apply cF_ev3 (plus_e _ _ _ _ bd3 bd3 bd3) | apply cV_ev3 (plus_e _ _ _ _ bd3 bd3 bd3) | apply cM_ev3 (plus_e _ _ _ _ bd3 bd3 bd3)) | with_reducible (first | apply gRS (by with_unfolding_all rfl) | apply gR (by with_unfolding_all rfl) | apply gS (by with_unfolding_all rfl) | fail) | (with_reducible apply X_drawC (id := 13) 8; (next => (kernel_rfl)); (next => (kernel_rfl))) | (with_reducible apply X_drawM (id := 16) 15 [] trHW1n11x16; (next => (kernel_rfl)); (next => (kernel_rfl))) | refine X_of _ ?_ | with_reducible (first | exact ⟨_, rfl⟩ | refine And.intro ?_ ?_ | intro _)) <;> try simp -implicitDefEqProofs (maxSteps := 1000000) (disch := first | exact dz3 | fail) only [vcR, vcT, simprocAttr, Ab.part, implies_true, forall_const, true_or, Option.isNone_some, Option.isNone_none, vcXHb, Tryd.f11, List.toList_toArray, arr4_zero, nat4_set1, nat4_setL, nat4_set0, hjc,hjs, trHW1n11x16]))
      have hx0 : ∀ {K : TV → HE → Prop}, xext (((ctx0 Tryd.prog w).after (modEvo 108) w.heap.size w1 β1 [0]).after (modEvo 108) w.heap.size w2 β2 [0]) (some true) 4 ⟨js, 0, none⟩ K = K (.agg (nat4 y)) .none := fun {K} => hx (q := 0) (by decide)
      have hx1 : ∀ {K : TV → HE → Prop}, xext (((ctx0 Tryd.prog w).after (modEvo 108) w.heap.size w1 β1 [0]).after (modEvo 108) w.heap.size w2 β2 [0]) (some true) 4 ((⟨js, 0, none⟩ : Addr).add 0) K = K (.agg (nat4 y)) .none := fun {K} => hx (q := 0) (by decide)
      refine X_loop (ι := Nat) (fun q => 1 ≤ q ∧ q ≤ 10) (fun q => 10 - q) [12, 42, 43, 44, 45, 46, 47, 48, 49, 50, 51, 52, 53]
        (fun q => [(12, .s (.v (.int .i64 (q : Nat))))])
        (fun q => []) 1 (shape_of fun q => ?_) (by decide) ?_ ?_
      · simp only [List.length_cons, List.length_nil, List.map_cons, List.map_nil, List.nodup_cons, List.nodup_nil, List.mem_cons, Nat.reduceAdd, Nat.reduceEqDiff, or_false, not_false_eq_true, forall_eq_or_imp, forall_eq, or_self, Nat.reduceLT, Nat.reduceLeDiff, and_self, List.forall_mem_cons, List.not_mem_nil, false_implies, implies_true, and_true, true_and, vcOHb]
      · simp -implicitDefEqProofs (maxSteps := 1000000) (disch := first | exact dz3 | fail) only [vcR, vcT, simprocAttr, Ab.part, implies_true, forall_const, true_or, Option.isNone_some, Option.isNone_none, vcXHb, Tryd.f11, List.toList_toArray, again_eq]
        first | exact ⟨_, rfl⟩ | (simp; done)
      · intro q us hq
        by_cases h : q < 10
        · have hxq : ∀ {K : TV → HE → Prop}, xext (((ctx0 Tryd.prog w).after (modEvo 108) w.heap.size w1 β1 [0]).after (modEvo 108) w.heap.size w2 β2 [0]) (some true) 4 ((⟨js, 0, none⟩ : Addr).add (q * 4)) K = K (.agg (nat4 y)) .none := fun {K} => hx h
          (repeat' ((first | with_reducible (first | apply XQ_cons | apply XQ_consG | apply XQ_nil | apply XR_cons | apply XR_consG | apply XR_nil | apply XM_cons | apply XM_consG | apply XM_nil | apply cF_pure3 (by assumption) | apply cV_pure3 (by assumption) | apply cM_pure3 (by assumption) | apply cF_ev3 (by assumption) | apply cV_ev3 (by assumption) | apply cM_ev3 (by assumption) | apply cF_ev3 (plus_e _ _ _ _ bd3 bd3 bd3) | apply cV_ev3 (plus_e _ _ _ _ bd3 bd3 bd3) | apply cM_ev3 (plus_e _ _ _ _ bd3 bd3 bd3)) | with_reducible (first | apply gRS (by with_unfolding_all rfl) | apply gR (by with_unfolding_all rfl) | apply gS (by with_unfolding_all rfl) | apply gSB (by with_unfolding_all rfl) | apply gB (by with_unfolding_all rfl) | fail) | (with_reducible apply X_drawC (id := 13) 8; (next => (kernel_rfl)); (next => (kernel_rfl))) | (with_reducible apply X_drawM (id := 16) 15 [] trHW1n11x16; (next => (kernel_rfl)); (next => (kernel_rfl))) | refine X_of _ ?_ | with_reducible (first | exact ⟨_, rfl⟩ | refine And.intro ?_ ?_ | intro _)) <;> try simp -implicitDefEqProofs (maxSteps := 1000000) (disch := first | exact dz3 | fail) only [vcR, vcT, simprocAttr, Ab.part, implies_true, forall_const, true_or, Option.isNone_some, Option.isNone_none, vcXHb, Tryd.f11, List.toList_toArray, arr4_zero, nat4_set1, nat4_setL, nat4_set0, hxq,hx0,hx1,litsEq_self, trHW1n11x16]))
          refine ⟨q + 1, by omega, ?_⟩
          simp -implicitDefEqProofs (maxSteps := 1000000) (disch := first | exact dz3 | fail) only [vcR, vcT, simprocAttr, Ab.part, implies_true, forall_const, true_or, Option.isNone_some, Option.isNone_none, vcXHb, Tryd.f11, List.toList_toArray, again_eq]
          first | exact ⟨_, rfl⟩ | (simp; done)
        · have : q = 10 := by omega
          subst this
          have hxi : ∀ {K : TV → HE → Prop}, xext (((ctx0 Tryd.prog w).after (modEvo 108) w.heap.size w1 β1 [0]).after (modEvo 108) w.heap.size w2 β2 [0]) (some true) 4 ((⟨js, 0, none⟩ : Addr).add (i * 4)) K = K (.agg (nat4 y)) .none := fun {K} => hx hi9
          (repeat' ((first | with_reducible (first | apply XQ_cons | apply XQ_consG | apply XQ_nil | apply XR_cons | apply XR_consG | apply XR_nil | apply XM_cons | apply XM_consG | apply XM_nil | apply cF_pure3 (by assumption) | apply cV_pure3 (by assumption) | apply cM_pure3 (by assumption) | apply cF_ev3 (by assumption) | apply cV_ev3 (by assumption) | apply cM_ev3 (by assumption) | apply cF_ev3 (plus_e _ _ _ _ bd3 bd3 bd3) | apply cV_ev3 (plus_e _ _ _ _ bd3 bd3 bd3) | apply cM_ev3 (plus_e _ _ _ _ bd3 bd3 bd3)) | with_reducible (first | apply gRS (by with_unfolding_all rfl) | apply gR (by with_unfolding_all rfl) | apply gS (by with_unfolding_all rfl) | fail) | (with_reducible apply X_drawC (id := 13) 8; (next => (kernel_rfl)); (next => (kernel_rfl))) | (with_reducible apply X_drawM (id := 16) 15 [] trHW1n11x16; (next => (kernel_rfl)); (next => (kernel_rfl))) | refine X_of _ ?_ | with_reducible (first | exact ⟨_, rfl⟩ | refine And.intro ?_ ?_ | intro _)) <;> try simp -implicitDefEqProofs (maxSteps := 1000000) (disch := first | exact dz3 | fail) only [vcR, vcT, simprocAttr, Ab.part, implies_true, forall_const, true_or, Option.isNone_some, Option.isNone_none, vcXHb, Tryd.f11, List.toList_toArray, arr4_zero, nat4_set1, nat4_setL, nat4_set0, hxi,hx0,st_bs,xbs_some,gzpc1,zpc1_len,one_pc,piece_b0,piece_l0,pieceC_length,pieceC_okk,pieceC_one, trHW1n11x16]))
          refine yF_evz (fun β' w' hR => ⟨_, e2 ⟨β' 1, 0, none⟩, ⟨hG2 w' hR.fr.to, hO2 w' hR.fr.to⟩, hC w' hR.fr.to, pcsAt_own0 hR rfl (by decide)⟩) rfl rfl (by kernel_rfl) ?_
          try simp -implicitDefEqProofs (maxSteps := 1000000) (disch := first | exact dz3 | fail) only [vcR, vcT, simprocAttr, Ab.part, implies_true, forall_const, true_or, Option.isNone_some, Option.isNone_none, vcXHb, Tryd.f11, List.toList_toArray]
          (repeat' ((first | with_reducible (first | apply XQ_cons | apply XQ_consG | apply XQ_nil | apply XR_cons | apply XR_consG | apply XR_nil | apply cF_pure3 (by assumption) | apply cV_pure3 (by assumption) | apply cF_ev3 (by assumption) | apply cV_ev3 (by assumption) | apply cF_ev3 (plus_e _ _ _ _ bd3 bd3 bd3) | apply cV_ev3 (plus_e _ _ _ _ bd3 bd3 bd3)) | with_reducible (first | apply gRS (by with_unfolding_all rfl) | apply gR (by with_unfolding_all rfl) | apply gS (by with_unfolding_all rfl) | fail) | (with_reducible apply X_drawC (id := 13) 8; (next => (kernel_rfl)); (next => (kernel_rfl))) | (with_reducible apply X_drawC (id := 16) 22; (next => (kernel_rfl)); (next => (kernel_rfl))) | refine X_of _ ?_ | with_reducible (first | exact ⟨_, rfl⟩ | refine And.intro ?_ ?_ | intro _)) <;> try simp -implicitDefEqProofs (maxSteps := 1000000) (disch := first | exact dz3 | fail) only [vcR, vcT, simprocAttr, Ab.part, implies_true, forall_const, true_or, Option.isNone_some, Option.isNone_none, vcXHb, Tryd.f11, List.toList_toArray, arr4_zero, nat4_set1, nat4_setL, nat4_set0, hx0,hx1,litsEq_self]))
end Go.Proofs.YtdmcknmjdlghgaaDoor
