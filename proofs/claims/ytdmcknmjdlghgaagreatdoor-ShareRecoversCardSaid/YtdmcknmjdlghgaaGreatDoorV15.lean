/-
  ShareRecovers: as many right shares as there are coefficients recover the secret.
  The frame of a law whose row lists packages' numbers as they are laid.
  Arguments that are slices of integers.
-/
import Derived.Test.YtdmcknmjdlghgaaGreatDoorRows
import Derived.ChangeVars
import Derived.JoinedOf
import Derived.LaidLaws
import Derived.LaidHandle
import Derived.Stop.Joined
import Derived.Test.YtdmcknmjdlghgaaGreatDoorV01
import Derived.Test.YtdmcknmjdlghgaaGreatDoorV02
import Derived.Test.YtdmcknmjdlghgaaGreatDoorV03
import Derived.Test.YtdmcknmjdlghgaaGreatDoorV05
import Derived.Test.YtdmcknmjdlghgaaGreatDoorV06
import Derived.Test.YtdmcknmjdlghgaaGreatDoorV07
import Derived.Test.YtdmcknmjdlghgaaGreatDoorV08
import Derived.Test.YtdmcknmjdlghgaaGreatDoorV09
import Derived.Test.YtdmcknmjdlghgaaGreatDoorV11
import Derived.Test.YtdmcknmjdlghgaaGreatDoorV12
import Derived.Test.YtdmcknmjdlghgaaGreatDoorV13
import Derived.Test.YtdmcknmjdlghgaaGreatDoorV14
namespace Go.Proofs.YtdmcknmjdlghgaaGreatDoor
open Go Go.Ab
set_option linter.unusedSimpArgs false
set_option linter.unusedVariables false
set_option linter.defProp false
set_option maxHeartbeats 20000000
set_option maxRecDepth 100000
noncomputable abbrev cx (w w1 w2 : World) (N : Nat) (β1 β2 : Nat → Nat) : Ctx := ((ctx0 Tryz.prog w).after (modEvo 135) w.heap.size w1 β1 [N]).after (modEvo 135) w.heap.size w2 β2 [0]
def trHW5n5x22 : Tr := (.cons 10 (.cons 11 (.cons 12 (.cons 13 (.cons 14 .nil .nil) .nil) .nil) .nil) (.cons 11 (.cons 10 (.cons 12 (.cons 13 (.cons 14 .nil .nil) .nil) .nil) .nil) .nil))
theorem shareRecovers_m (z : Int) (hz : IntKind.i64.min ≤ z ∧ z ≤ IntKind.i64.max) (x : Option Addr) (m c : Nat) (l : Nat → Nat) (hl : ∀ i, l i < 2 ^ 256) (hm : m < 9223372036854775808) (hmc : m ≤ c)
    (y : Option Addr) (n d : Nat) (S : Nat → Int) (hS : ∀ i, -9223372036854775808 ≤ S i ∧ S i < 9223372036854775808) (hn : n < 9223372036854775808) (hnd : n ≤ d) :
    PureM Tryz.prog 5 [.s (.v (.int .i64 z)), .s (.v (.slice x m c)), .s (.v (.slice y n d))] (fun w => natsAt (modEvo 135) x m l w.heap.size w ∧ intsAt (modEvo 135) y n S w.heap.size w ∧ gv w) (.s (.v (.bool true))) := by
  clear hz hmc hnd
  have hsm0 := small_g z
  have hsm := lsmall_g z
  have hok := sm_ok z
  have hcp := sm_cop z
  obtain ⟨P, hP⟩ : ∃ P, smP z = P := ⟨_, rfl⟩
  obtain ⟨Q, hQ⟩ : ∃ Q, smQ z = Q := ⟨_, rfl⟩
  have hQ10 : 10 < Q := by rw [← hQ]; exact smQ_10 z
  rw [hP, hQ] at hsm hok hsm0
  rw [hQ] at hcp
  clear hP hQ
  have haw := shawake_m.ev (V := Evo.none)
  (refine pureM_of Tryz.func5 rfl (by simp only [List.length_cons, List.length_nil, List.map_cons, List.map_nil, List.nodup_cons, List.nodup_nil, List.mem_cons, Nat.reduceAdd, Nat.reduceEqDiff, or_false, not_false_eq_true, forall_eq_or_imp, forall_eq, or_self, Nat.reduceLT, Nat.reduceLeDiff, and_self, List.forall_mem_cons, List.not_mem_nil, false_implies, implies_true, and_true, true_and, vcOHb]) (by simp only [List.length_cons, List.length_nil, List.map_cons, List.map_nil, List.nodup_cons, List.nodup_nil, List.mem_cons, Nat.reduceAdd, Nat.reduceEqDiff, or_false, not_false_eq_true, forall_eq_or_imp, forall_eq, or_self, Nat.reduceLT, Nat.reduceLeDiff, and_self, List.forall_mem_cons, List.not_mem_nil, false_implies, implies_true, and_true, true_and, vcOHb]) fun w hpre => ?_; simp only [List.length_cons, List.length_nil, Tryz.ntmps5, Nat.reduceAdd, Nat.reduceSub, List.replicate_succ, List.replicate_zero, List.cons_append, List.nil_append])
  have hgv := gv_kn (P0 := Tryz.prog) hpre.2.2
  (repeat' ((first | with_reducible (first | apply XQ_cons | apply XQ_consG | apply XQ_nil | apply XR_make | apply XR_append | apply XR_cons | apply XR_consG | apply XR_nil | apply XM_cons | apply XM_consG | apply XM_nil | apply cF_pure3 (by assumption) | apply cV_pure3 (by assumption) | apply cM_pure3 (by assumption) | apply cF_ev3 (by assumption) | apply cV_ev3 (by assumption) | apply cM_ev3 (by assumption) | apply cF_pure3 (rdiv_c _ _ bd3 bd3 bd3) | apply cV_pure3 (rdiv_c _ _ bd3 bd3 bd3) | apply cM_pure3 (rdiv_c _ _ bd3 bd3 bd3)) | with_reducible (first | apply gRS (by with_unfolding_all rfl) | apply gR (by with_unfolding_all rfl) | apply gS (by with_unfolding_all rfl) | fail) | refine X_of _ ?_ | with_reducible (first | exact ⟨_, rfl⟩ | refine And.intro ?_ ?_ | intro _)) <;> try simp -implicitDefEqProofs (maxSteps := 1000000) (disch := first | exact dz3 | fail) only [vcR, vcT, simprocAttr, Ab.part, implies_true, forall_const, vcS, vcXHb, Tryz.f5]))
  refine yF_small (h0 := 0) hsm0 rfl (fun _ h => h) rfl ?_
  intro n0 A H1 hn1 hn5 hLi hd hA hN0
  obtain ⟨N, hN⟩ : ∃ N, A.length = N := ⟨_, rfl⟩
  rw [hN] at hN0
  have q0 : ∀ {B : Heap}, (A ++ B)[N]? = B[0]? := fun {B} => end0 hN
  have qs : ∀ {B : Heap} {t : Nat} {cs cs' : List SV}, putH (A ++ ⟨t, cs⟩ :: B) N cs' = A ++ ⟨t, cs'⟩ :: B := fun {B t cs cs'} => end_put hN
  clear hA hLi hd hn1 hn5
  try simp -implicitDefEqProofs (maxSteps := 1000000) (disch := first | exact dz3 | fail) only [vcR, vcT, simprocAttr, Ab.part, implies_true, forall_const, vcS, vcXHb, Tryz.f5, hN,q0,qs]
  (repeat' ((first | with_reducible (first | apply XQ_cons | apply XQ_consG | apply XQ_nil | apply XR_make | apply XR_append | apply XR_cons | apply XR_consG | apply XR_nil | apply XM_cons | apply XM_consG | apply XM_nil | apply cF_pure3 (by assumption) | apply cV_pure3 (by assumption) | apply cM_pure3 (by assumption) | apply cF_ev3 (by assumption) | apply cV_ev3 (by assumption) | apply cM_ev3 (by assumption) | apply cF_pure3 (rdiv_c _ _ bd3 bd3 bd3) | apply cV_pure3 (rdiv_c _ _ bd3 bd3 bd3) | apply cM_pure3 (rdiv_c _ _ bd3 bd3 bd3)) | with_reducible (first | apply gRS (by with_unfolding_all rfl) | apply gR (by with_unfolding_all rfl) | apply gS (by with_unfolding_all rfl) | fail) | refine X_of _ ?_ | with_reducible (first | exact ⟨_, rfl⟩ | refine And.intro ?_ ?_ | intro _)) <;> try simp -implicitDefEqProofs (maxSteps := 1000000) (disch := first | exact dz3 | fail) only [vcR, vcT, simprocAttr, Ab.part, implies_true, forall_const, vcS, vcXHb, Tryz.f5, hN,q0,qs]))
  refine yF_lsmall (N := N + 1) hsm hgv rfl (fun _ h => h) (by rw [end_len hN]; rfl) ?_
  intro bx bq
  simp only [List.append_assoc, List.cons_append, List.nil_append]
  (try (first | with_reducible refine X_regRS ?_ | with_reducible refine X_regR ?_ | (with_reducible refine X_seqX ?_; with_reducible refine X_blockX ?_; with_reducible refine X_regR ?_))); (repeat ((first | with_reducible refine XR_make ?_ | with_reducible refine XR_append ?_ | with_reducible refine XR_cons ?_ | with_reducible refine XR_consG ?_ | with_reducible refine XR_nil ?_); try simp -implicitDefEqProofs (maxSteps := 1000000) (disch := first | exact dz3 | fail) only [vcR, vcT, simprocAttr, Ab.part, implies_true, forall_const, vcS, vcXHb, Tryz.f5, hN,q0,qs]))
  simp only [show N + 1 + 1 = N + 2 from rfl, show N + 1 + 2 = N + 3 from rfl]
  refine X_grp (N + 1) (N + 2) (N + 3) [N] ((endk hN (k := 1)).trans rfl) ((endk hN (k := 2)).trans rfl) ((endk hN (k := 3)).trans rfl) hok.gr.1 hok.gr.2.1 (by decide) (by simp; try omega) (by simp; try omega) (fun i hi => by rw [end_len hN]; simp at hi ⊢; omega) (by simp only [pickH_cons, pickH_nil, consH_some, List.getElem?_cons_zero, hN, q0, qs]; simp) fun β1 w1 hR1 hG hK => ?_
  have hy0 : ¬ 0 = N := by omega
  have hMN : ¬ N + 1 = N := by omega
  have hO := gv_one hpre.2.2 hR1 (L := [N]) (fun i hi => by rw [end_len hN]; simp at hi ⊢; omega)
  have hNx := hK _ (natsAt_stays _ x m l) hpre.1
  have hY := hK _ (intsAt_stays _ y n S) hpre.2.1
  have hax : m ≠ 0 → ∃ ad, x = some ad := fun h => by
    rcases hpre.1 with h0 | ⟨ad, h0, _⟩
    · omega
    · exact ⟨ad, h0⟩
  have hadr : n ≠ 0 → ∃ ad, y = some ad := fun h => by
    rcases hpre.2.1 with h0 | ⟨ad, h0, _⟩
    · omega
    · exact ⟨ad, h0⟩
  clear hR1 hK hgv hpre haw hsm hsm0
  simp -implicitDefEqProofs (maxSteps := 1000000) (disch := first | exact dz3 | fail) only [vcR, vcT, simprocAttr, Ab.part, implies_true, forall_const, vcS, vcXHb, Tryz.f5, hN,q0,qs,hy0,hMN]
  obtain ⟨k, hk⟩ : ∃ k, β1 (N + 1) = k := ⟨_, rfl⟩
  obtain ⟨kx, hkx⟩ : ∃ k, β1 (N + 2) = k := ⟨_, rfl⟩
  obtain ⟨kq, hkq⟩ : ∃ k, β1 (N + 3) = k := ⟨_, rfl⟩
  rw [hk, hkx, hkq] at hG
  have hOQ := hok.gr.2.1
  have hP2 := hok.gr.1.lt
  have hQ2 := hOQ.lt
  clear hN0 hN q0 qs hy0 hMN
  try simp -implicitDefEqProofs (maxSteps := 1000000) (disch := first | exact dz3 | fail) only [vcR, vcT, simprocAttr, Ab.part, implies_true, forall_const, vcS, vcXHb, Tryz.f5, hk,hkx,hkq]
  clear hkx hkq
  by_cases h1 : (m : Int) < 1
  · clear hl hS
    (repeat' ((first | with_reducible (first | apply XQ_cons | apply XQ_consG | apply XQ_nil | apply XR_make | apply XR_append | apply XR_cons | apply XR_consG | apply XR_nil | apply XM_cons | apply XM_consG | apply XM_nil | apply cF_pure3 (by assumption) | apply cV_pure3 (by assumption) | apply cM_pure3 (by assumption) | apply cF_ev3 (by assumption) | apply cV_ev3 (by assumption) | apply cM_ev3 (by assumption) | apply cF_pure3 (rdiv_c _ _ bd3 bd3 bd3) | apply cV_pure3 (rdiv_c _ _ bd3 bd3 bd3) | apply cM_pure3 (rdiv_c _ _ bd3 bd3 bd3)) | with_reducible (first | apply gRS (by with_unfolding_all rfl) | apply gR (by with_unfolding_all rfl) | apply gS (by with_unfolding_all rfl) | fail) | refine X_of _ ?_ | with_reducible (first | exact ⟨_, rfl⟩ | refine And.intro ?_ ?_ | intro _)) <;> try simp -implicitDefEqProofs (maxSteps := 1000000) (disch := first | exact dz3 | fail) only [vcR, vcT, simprocAttr, Ab.part, implies_true, forall_const, vcS, vcXHb, Tryz.f5, hk,h1]))
  by_cases h2 : (m : Int) > 6
  · clear hl hS
    (repeat' ((first | with_reducible (first | apply XQ_cons | apply XQ_consG | apply XQ_nil | apply XR_make | apply XR_append | apply XR_cons | apply XR_consG | apply XR_nil | apply XM_cons | apply XM_consG | apply XM_nil | apply cF_pure3 (by assumption) | apply cV_pure3 (by assumption) | apply cM_pure3 (by assumption) | apply cF_ev3 (by assumption) | apply cV_ev3 (by assumption) | apply cM_ev3 (by assumption) | apply cF_pure3 (rdiv_c _ _ bd3 bd3 bd3) | apply cV_pure3 (rdiv_c _ _ bd3 bd3 bd3) | apply cM_pure3 (rdiv_c _ _ bd3 bd3 bd3)) | with_reducible (first | apply gRS (by with_unfolding_all rfl) | apply gR (by with_unfolding_all rfl) | apply gS (by with_unfolding_all rfl) | fail) | refine X_of _ ?_ | with_reducible (first | exact ⟨_, rfl⟩ | refine And.intro ?_ ?_ | intro _)) <;> try simp -implicitDefEqProofs (maxSteps := 1000000) (disch := first | exact dz3 | fail) only [vcR, vcT, simprocAttr, Ab.part, implies_true, forall_const, vcS, vcXHb, Tryz.f5, hk,h1,h2,vcI]))
  by_cases h3 : (n : Int) > 10
  · clear hl hS
    (repeat' ((first | with_reducible (first | apply XQ_cons | apply XQ_consG | apply XQ_nil | apply XR_make | apply XR_append | apply XR_cons | apply XR_consG | apply XR_nil | apply XM_cons | apply XM_consG | apply XM_nil | apply cF_pure3 (by assumption) | apply cV_pure3 (by assumption) | apply cM_pure3 (by assumption) | apply cF_ev3 (by assumption) | apply cV_ev3 (by assumption) | apply cM_ev3 (by assumption) | apply cF_pure3 (rdiv_c _ _ bd3 bd3 bd3) | apply cV_pure3 (rdiv_c _ _ bd3 bd3 bd3) | apply cM_pure3 (rdiv_c _ _ bd3 bd3 bd3)) | with_reducible (first | apply gRS (by with_unfolding_all rfl) | apply gR (by with_unfolding_all rfl) | apply gS (by with_unfolding_all rfl) | fail) | refine X_of _ ?_ | with_reducible (first | exact ⟨_, rfl⟩ | refine And.intro ?_ ?_ | intro _)) <;> try simp -implicitDefEqProofs (maxSteps := 1000000) (disch := first | exact dz3 | fail) only [vcR, vcT, simprocAttr, Ab.part, implies_true, forall_const, vcS, vcXHb, Tryz.f5, hk,h1,h2,h3,vcI]))
  have hm0 : m ≠ 0 := by omega
  obtain ⟨ax, rfl⟩ := hax hm0
  have e1 := deal_n k kx kq P Q 4 (some ax) m c 10 l (by decide) hl (by omega) (by omega) (by decide) (by decide) hQ10
  have hc2 : ∀ j, comN P 4 l j < 2 ^ 256 := fun j => hok.gr.1.mod_lt
  have hv2 : ∀ j : Nat, valN Q l m (j : Int) < 2 ^ 256 := fun j => hrn_lt hOQ _ _ _ _
  have e2 := fun (L : List Nat) (hL : ∀ x ∈ L, x < 10) (hlen : L.length ≤ 10) (u : Addr) (v : Nat) (y' : Option Addr) (d' : Nat) => recover_e k kx kq P Q 4 (some u) m v (comN P 4 l) y' L.length d' (sOf L) (aOf (fun s => valN Q l m (s : Nat)) L) hP2 hQ2 (by decide) hc2 (fun i => hv2 _) (fun i => by
    unfold sOf
    have h : L.getD i 0 < 10 := by
      by_cases hi : i < L.length
      · exact hL _ (getD_mem hi)
      · rw [List.getD_eq_getElem?_getD, List.getElem?_eq_none (by omega)]; decide
    omega) (by omega) (by omega)
  have e3 := fun (L : List Nat) (hL : ∀ x ∈ L, x < 10) (hn : L.Nodup) => recovers_law hok hcp hQ10 (c := l) (m := m) (L := L) (by omega) (by omega) hL hn
  have e4 := rdiv_c (l 0) Q (hl 0) hQ2
  have hw2 : l 0 % Q < 2 ^ 256 := hOQ.mod_lt
  have e5 := fun ad c1 => opens_e k kx kq P Q 4 (some ad) m c1 (comN P 4 l) (l 0 % Q) hP2 (by decide) hc2 (by omega) hw2
  have hop : (decide (0 < m) && decide (l 0 % Q < Q) && decide (4 ^ (l 0 % Q) % P = comN P 4 l 0)) = true := by
    rw [decide_eq_true (show 0 < m by omega), decide_eq_true (Nat.mod_lt _ (by omega)), decide_eq_true]
    · rfl
    · exact pow_modQ hok.gr.1.gt hok.gr.2.2.2.2.2.2
  rw [hop] at e5
  obtain ⟨u, hu⟩ : ∃ u, l 0 % Q = u := ⟨_, rfl⟩
  obtain ⟨vv, hvv⟩ : ∃ v : Nat → Nat, (fun s : Nat => valN Q l m (s : Int)) = v := ⟨_, rfl⟩
  obtain ⟨f, hf⟩ : ∃ f, comN P 4 l = f := ⟨_, rfl⟩
  have hl0 := hl 0
  simp only [hvv] at e1
  simp only [hvv, hf, hu] at e3
  simp only [hvv, hf] at e2
  rw [hu, hf] at e5
  rw [hu] at hw2
  rw [hf] at e1
  clear hf hvv hop hc2 hv2 hok hcp hl hax hm
  (repeat' ((first | with_reducible (first | apply XQ_cons | apply XQ_consG | apply XQ_nil | apply XR_make | apply XR_append | apply XR_cons | apply XR_consG | apply XR_nil | apply XM_cons | apply XM_consG | apply XM_nil | apply cF_pure3 (by assumption) | apply cV_pure3 (by assumption) | apply cM_pure3 (by assumption) | apply cF_ev3 (by assumption) | apply cV_ev3 (by assumption) | apply cM_ev3 (by assumption) | apply cF_pure3 (rdiv_c _ _ bd3 bd3 bd3) | apply cV_pure3 (rdiv_c _ _ bd3 bd3 bd3) | apply cM_pure3 (rdiv_c _ _ bd3 bd3 bd3)) | with_reducible (first | apply gRS (by with_unfolding_all rfl) | apply gR (by with_unfolding_all rfl) | apply gS (by with_unfolding_all rfl) | fail) | refine X_of _ ?_ | with_reducible (first | exact ⟨_, rfl⟩ | refine And.intro ?_ ?_ | intro _)) <;> try simp -implicitDefEqProofs (maxSteps := 1000000) (disch := first | exact dz3 | fail) only [vcR, vcT, simprocAttr, Ab.part, implies_true, forall_const, vcS, vcXHb, Tryz.f5, hk,h1,h2,h3,vcI]))
  refine xcall_evn (by kernel_rfl) (fun β w' hR => ⟨_, e1, hG w' hR.fr.to, hNx w' hR.fr.to⟩) ?_
  rintro _ _ ⟨c1, sp1, c2, sp2, hc1, hc2, rfl, rfl⟩
  try simp -implicitDefEqProofs (maxSteps := 1000000) (disch := first | exact dz3 | fail) only [vcR, vcT, simprocAttr, Ab.part, implies_true, forall_const, vcS, vcXHb, Tryz.f5]
  (try (first | with_reducible refine X_regRS ?_ | with_reducible refine X_regR ?_ | (with_reducible refine X_seqX ?_; with_reducible refine X_blockX ?_; with_reducible refine X_regR ?_))); (repeat ((first | with_reducible refine XR_make ?_ | with_reducible refine XR_append ?_ | with_reducible refine XR_cons ?_ | with_reducible refine XR_consG ?_ | with_reducible refine XR_nil ?_); try simp -implicitDefEqProofs (maxSteps := 1000000) (disch := first | exact dz3 | fail) only [vcR, vcT, simprocAttr, Ab.part, implies_true, forall_const, vcS, vcXHb, Tryz.f5]))
  refine X_rebase (modEvo 135) w.heap.size [0] (by decide) (by simp) rfl (.inl ⟨rfl, rfl⟩) (fun _ h => h) (by
    intro i hi b hb
    simp only [List.mem_cons, List.not_mem_nil, or_false] at hi
    subst hi
    injection hb with hb
    subst hb
    show ¬ (28 = 135)
    decide) fun β2 w2 hR2 => ?_
  have hG2 : Kn (cx w w1 w2 N β1 β2) (GK k kx kq P Q 4) := hG.after (L := [0]) hR2 (by simp)
  have hO2 : Kn (cx w w1 w2 N β1 β2) oneK := hO.after (L := [0]) hR2 (by simp)
  have hX2 : Kn (cx w w1 w2 N β1 β2) (natsAt (modEvo 135) (some ax) m l) := hNx.after (L := [0]) hR2 (by simp)
  have hY2 : Kn (cx w w1 w2 N β1 β2) (intsAt (modEvo 135) y n S) := hY.after (L := [0]) hR2 (by simp)
  have hC : Kn (cx w w1 w2 N β1 β2) (natsAt (modEvo 135) (some ⟨β2 1, 0, none⟩) m f) := natsAt_gone (T0 := 135) (B := w.heap.size) (L := [0]) (j := 1) (sp := sp1.map SV.v) hR2 rfl (by simp) (by simp) (by decide)
  have hSh : Kn (cx w w1 w2 N β1 β2) (natsAt (modEvo 135) (some ⟨β2 2, 0, none⟩) 10 vv) := natsAt_gone (T0 := 135) (B := w.heap.size) (L := [0]) (j := 2) (sp := sp2.map SV.v) hR2 rfl (by simp) (by simp) (by decide)
  clear hR2 hG hO hNx hY e1 hc1 hc2
  simp -implicitDefEqProofs (maxSteps := 1000000) (disch := first | exact dz3 | fail) only [vcR, vcT, simprocAttr, Ab.part, implies_true, forall_const, vcS, vcXHb, Tryz.f5]
  obtain ⟨jc, hjc⟩ : ∃ j, β2 1 = j := ⟨_, rfl⟩
  obtain ⟨js, hjs⟩ : ∃ j, β2 2 = j := ⟨_, rfl⟩
  rw [hjc] at hC
  rw [hjs] at hSh
  have hszz : sz (cx w w1 w2 N β1 β2).P 45 = 5 := gsz_pc
  try simp -implicitDefEqProofs (maxSteps := 1000000) (disch := first | exact dz3 | fail) only [vcR, vcT, simprocAttr, Ab.part, implies_true, forall_const, vcS, vcXHb, Tryz.f5, hjc,hjs]
  (repeat' ((first | with_reducible (first | apply XQ_cons | apply XQ_consG | apply XQ_nil | apply XR_make | apply XR_append | apply XR_cons | apply XR_consG | apply XR_nil | apply XM_cons | apply XM_consG | apply XM_nil | apply cF_pure3 (by assumption) | apply cV_pure3 (by assumption) | apply cM_pure3 (by assumption) | apply cF_ev3 (by assumption) | apply cV_ev3 (by assumption) | apply cM_ev3 (by assumption) | apply cF_pure3 (rdiv_c _ _ bd3 bd3 bd3) | apply cV_pure3 (rdiv_c _ _ bd3 bd3 bd3) | apply cM_pure3 (rdiv_c _ _ bd3 bd3 bd3)) | with_reducible (first | apply gRS (by with_unfolding_all rfl) | apply gR (by with_unfolding_all rfl) | apply gS (by with_unfolding_all rfl) | fail) | refine X_of _ ?_ | with_reducible (first | exact ⟨_, rfl⟩ | refine And.intro ?_ ?_ | intro _)) <;> try simp -implicitDefEqProofs (maxSteps := 1000000) (disch := first | exact dz3 | fail) only [vcR, vcT, simprocAttr, Ab.part, implies_true, forall_const, vcS, vcXHb, Tryz.f5, hjc,hjs,gzb10,bls_length,bls_okk,vcI]))
  refine mk_b10 rfl (by show ¬ (4 = 135); decide) ?_
  try simp -implicitDefEqProofs (maxSteps := 1000000) (disch := first | exact dz3 | fail) only [vcR, vcT, simprocAttr, Ab.part, implies_true, forall_const, vcS, vcXHb, Tryz.f5]
  (repeat' ((first | with_reducible (first | apply XQ_cons | apply XQ_consG | apply XQ_nil | apply XR_make | apply XR_append | apply XR_cons | apply XR_consG | apply XR_nil | apply XM_cons | apply XM_consG | apply XM_nil | apply cF_pure3 (by assumption) | apply cV_pure3 (by assumption) | apply cM_pure3 (by assumption) | apply cF_ev3 (by assumption) | apply cV_ev3 (by assumption) | apply cM_ev3 (by assumption) | apply cF_pure3 (rdiv_c _ _ bd3 bd3 bd3) | apply cV_pure3 (rdiv_c _ _ bd3 bd3 bd3) | apply cM_pure3 (rdiv_c _ _ bd3 bd3 bd3)) | with_reducible (first | apply gRS (by with_unfolding_all rfl) | apply gR (by with_unfolding_all rfl) | apply gS (by with_unfolding_all rfl) | fail) | refine X_of _ ?_ | with_reducible (first | exact ⟨_, rfl⟩ | refine And.intro ?_ ?_ | intro _)) <;> try simp -implicitDefEqProofs (maxSteps := 1000000) (disch := first | exact dz3 | fail) only [vcR, vcT, simprocAttr, Ab.part, implies_true, forall_const, vcS, vcXHb, Tryz.f5, vcI]))
  refine X_loopT (ι := Nat × Nat × List Value) (fun k => k.1 ≤ n ∧ ((cho S k.1).length ≠ 0 → (cho S k.1).length ≤ k.2.1 ∧ k.2.2.length = (k.2.1 - (cho S k.1).length) * 5)) (fun k => n - k.1) [14, 16, 62, 63, 64, 65, 66, 67, 68, 69, 70, 71, 72, 73, 74, 75, 76, 77, 78, 79, 80, 81, 82, 83, 84, 85, 86, 87, 88, 89, 90, 91, 92, 93, 94, 95, 96, 97, 98, 99, 100, 101, 102, 103, 104, 105, 106, 107, 108, 109, 110]
    (fun k => [(14, rowS 2 (cho S k.1).length k.2.1), (16, .s (.v (.int .i64 (k.1 : Nat))))])
    (fun k => ⟨28, prms P Q 4⟩ :: ⟨4, bls 10 fun j => decide (j ∈ cho S k.1)⟩ :: rowH 45 (cho S k.1).length (pcs (cho S k.1).length (sOf (cho S k.1)) (aOf vv (cho S k.1))) k.2.2) (0, 0, []) ?_ (by decide) ?_ ?_
  · rintro ⟨i, c', sp⟩ ⟨hi, _⟩
    refine ⟨by simp, ?_, by simp, ?_⟩
    · simp only [List.forall_mem_cons]
      refine ⟨rowS_ok fun h0 => ?_, trivial, fun x hx => by simp at hx⟩
      rw [rowH_s h0]; exact Nat.lt_succ_self 2
    · simp only [List.forall_mem_cons]
      exact ⟨by rw [prms_okk]; trivial, bls_ok _, row_okG (pcs_ok _)⟩
  · refine ⟨⟨Nat.zero_le _, fun h => absurd rfl h⟩, [0, 1], ⟨by decide, rfl⟩, ?_, ?_⟩
    · simp -implicitDefEqProofs (maxSteps := 1000000) (disch := first | exact dz3 | fail) only [vcR, vcT, simprocAttr, Ab.part, implies_true, forall_const, vcS, vcXHb, Tryz.f5, renS_cons,renS_nil,ren_v]
      first | exact ⟨rfl, rfl⟩ | rfl | simp [cho, rowS_0]
    · exact ⟨rfl, by simp [cho], trivial⟩
  · rintro ⟨i, c', sp⟩ us ⟨hi, hrow⟩
    simp only at hi hrow ⊢
    have hLlt := cho_lt (S := S) i
    have hLnd := cho_nodup (S := S) i
    have hLlen := cho_len (S := S) i
    obtain ⟨L, hL⟩ : ∃ L, cho S i = L := ⟨_, rfl⟩
    by_cases hin : i < n
    · obtain ⟨ad, rfl⟩ := hadr (by omega)
      clear e2 e3 e4 e5
      have hx : ∀ {q : Nat} {K : TV → HE → Prop}, xext (cx w w1 w2 N β1 β2) (some false) q (ad.add i) K = K (.s (.v (.int .i64 (S i)))) .none := fun {q K} => Kn.ints hY2 hin
      have hx1 : ∀ {q : Nat} {K : TV → HE → Prop}, xext (cx w w1 w2 N β1 β2) (some false) q (ad.add (i * 1)) K = K (.s (.v (.int .i64 (S i)))) .none := fun {q K} => by rw [Nat.mul_one]; exact hx
      by_cases hyes : 0 ≤ S i ∧ S i < 10 ∧ (S i).toNat ∉ cho S i
      · have hcho := cho_yes hyes
        obtain ⟨hs0, hs10, hsn⟩ := hyes
        obtain ⟨q, hq⟩ : ∃ q : Nat, S i = q := ⟨(S i).toNat, by omega⟩
        have hq10 : q < 10 := by omega
        have hqn : (S i).toNat = q := by omega
        rw [hqn] at hcho hsn
        rw [hL] at hcho hsn hrow hLlt hLnd hLlen
        rw [hL]
        have hge : ((q : Nat) : Int) ≥ 0 := by omega
        have hlt : ((q : Nat) : Int) < 10 := by omega
        have hget : (bls 10 fun j => decide (j ∈ L))[q]? = some (.v (.bool false)) := by rw [bls_get hq10, decide_eq_false hsn]
        have hset : (bls 10 fun j => decide (j ∈ L)).set q (.v (.bool true)) = bls 10 fun j => decide (j ∈ L ++ [q]) := bls_set hq10 fun j => by
          by_cases hj : j = q
          · subst hj; simp
          · simp [hj]
        have hxs : ∀ {K : TV → HE → Prop}, xext (cx w w1 w2 N β1 β2) (some true) 4 ((⟨js, 0, none⟩ : Addr).add (q * 4)) K = K (.agg (nat4 (vv q))) .none := fun {K} => hSh.nat hq10
        simp only [hq] at hx hx1
        obtain ⟨b0, hb0⟩ : ∃ b0, (bls 10 fun j => decide (j ∈ L)) = b0 := ⟨_, rfl⟩
        obtain ⟨b1, hb1⟩ : ∃ b1, (bls 10 fun j => decide (j ∈ L ++ [q])) = b1 := ⟨_, rfl⟩
        have hbl : b0.length = 10 := by rw [← hb0, bls_length]
        rw [hb0] at hget
        rw [hb0, hb1] at hset
        rw [hb0]
        have hLq : (L ++ [q]).length = L.length + 1 := by rw [List.length_append, List.length_singleton]
        by_cases h0 : L.length = 0
        · have hL0 : L = [] := List.eq_nil_of_length_eq_zero h0
          subst hL0
          rw [List.length_nil, rowH_0]
          (repeat' ((first | with_reducible (first | apply XQ_cons | apply XQ_consG | apply XQ_nil | apply XR_make | apply XR_append | apply XR_cons | apply XR_consG | apply XR_nil | apply XM_cons | apply XM_consG | apply XM_nil | apply cF_pure3 (by assumption) | apply cV_pure3 (by assumption) | apply cM_pure3 (by assumption) | apply cF_ev3 (by assumption) | apply cV_ev3 (by assumption) | apply cM_ev3 (by assumption) | apply cF_pure3 (rdiv_c _ _ bd3 bd3 bd3) | apply cV_pure3 (rdiv_c _ _ bd3 bd3 bd3) | apply cM_pure3 (rdiv_c _ _ bd3 bd3 bd3)) | with_reducible (first | apply gRS (by with_unfolding_all rfl) | apply gR (by with_unfolding_all rfl) | apply gS (by with_unfolding_all rfl) | apply gSB (by with_unfolding_all rfl) | apply gB (by with_unfolding_all rfl) | fail) | (with_reducible apply X_drawC (id := 18) 13; (next => (kernel_rfl)); (next => (kernel_rfl))) | refine X_of _ ?_ | with_reducible (first | exact ⟨_, rfl⟩ | refine And.intro ?_ ?_ | intro _)) <;> try simp -implicitDefEqProofs (maxSteps := 1000000) (disch := first | exact dz3 | fail) only [vcR, vcT, simprocAttr, Ab.part, implies_true, forall_const, vcS, vcXHb, Tryz.f5, hx,hx1,hxs,hge,hlt,hget,hset,hbl,st_bs,xbs_some,gzpc1,zpc1_len,gone_pc,piece_b0,piece_l0,pieceC_length,pieceC_okk,pieceC_one,vcI]))
          refine xappend_row (cs := pcs 0 (sOf []) (aOf vv [])) (sp := sp) (gnews_pc (s := (q : Nat)) (a := vv q) hszz rfl) (fun h => absurd rfl h) (by rw [pcs_length, hszz]) (by rw [pieceC_length, hszz]) (gap_pc _ (by omega)) (by rw [pieceC_one]; trivial) (by first | exact fun h => h | (show ¬ (45 = 135); decide)) fun j' c'' sp' H' g1 g2 g3 g4 g5 g6 => ?_
          have hj0 : j' ≠ 0 ∧ j' ≠ 1 := by
            rcases g4 with ⟨h, _⟩ | h
            · exact absurd rfl h
            · rw [h]; simp
          have hH0 := g6 rfl 0 (by simp)
          have hH1 := g6 rfl 1 (by simp)
          clear g4 g5 g6 hx hx1 hxs
          (repeat' ((first | with_reducible (first | apply XQ_cons | apply XQ_consG | apply XQ_nil | apply XR_make | apply XR_append | apply XR_cons | apply XR_consG | apply XR_nil | apply XM_cons | apply XM_consG | apply XM_nil | apply cF_pure3 (by assumption) | apply cV_pure3 (by assumption) | apply cM_pure3 (by assumption) | apply cF_ev3 (by assumption) | apply cV_ev3 (by assumption) | apply cM_ev3 (by assumption) | apply cF_pure3 (rdiv_c _ _ bd3 bd3 bd3) | apply cV_pure3 (rdiv_c _ _ bd3 bd3 bd3) | apply cM_pure3 (rdiv_c _ _ bd3 bd3 bd3)) | with_reducible (first | apply gRS (by with_unfolding_all rfl) | apply gR (by with_unfolding_all rfl) | apply gS (by with_unfolding_all rfl) | apply gSB (by with_unfolding_all rfl) | apply gB (by with_unfolding_all rfl) | fail) | (with_reducible apply X_drawC (id := 18) 13; (next => (kernel_rfl)); (next => (kernel_rfl))) | refine X_of _ ?_ | with_reducible (first | exact ⟨_, rfl⟩ | refine And.intro ?_ ?_ | intro _)) <;> try simp -implicitDefEqProofs (maxSteps := 1000000) (disch := first | exact dz3 | fail) only [vcR, vcT, simprocAttr, Ab.part, implies_true, forall_const, vcS, vcXHb, Tryz.f5]))
          have hcl : (cho S (i + 1)).length = 0 + 1 := by rw [hcho, hLq]; rfl
          refine ⟨(i + 1, c'', sp'), by simp; omega, ⟨⟨by simp; omega, by
            dsimp only
            rw [hcl]
            exact fun _ => ⟨g1, by rw [hszz] at g2; exact g2⟩⟩, [0, 1, j'], ⟨by simp [Ne.symm hj0.1, Ne.symm hj0.2], rfl⟩, ?_, ?_⟩⟩
          · have e1 : (rowS 2 (0 + 1) c'').ren (lk [0, 1, j']) = .s (.sl j' 0 (0 + 1) c'') := by rw [ren_rowS, rowS_s (by omega)]; rfl
            dsimp only
            rw [hcl]
            simp -implicitDefEqProofs (maxSteps := 1000000) (disch := first | exact dz3 | fail) only [vcR, vcT, simprocAttr, Ab.part, implies_true, forall_const, vcS, vcXHb, Tryz.f5, renS_cons,renS_nil,ren_v,e1]
            try omega
          · dsimp only
            rw [hcho, rowH_s (by simp : ([] ++ [q] : List Nat).length ≠ 0), hb1]
            refine ⟨hH0.trans rfl, hH1.trans rfl, ?_, trivial⟩
            rw [g3]
            exact congrArg (fun x => some (AB.mk _ (x ++ _))) (pcs_cho (L := []) (v := vv) (q := q))
        · rw [rowH_s h0]
          obtain ⟨hkc, hsp⟩ := hrow h0
          (repeat' ((first | with_reducible (first | apply XQ_cons | apply XQ_consG | apply XQ_nil | apply XR_make | apply XR_append | apply XR_cons | apply XR_consG | apply XR_nil | apply XM_cons | apply XM_consG | apply XM_nil | apply cF_pure3 (by assumption) | apply cV_pure3 (by assumption) | apply cM_pure3 (by assumption) | apply cF_ev3 (by assumption) | apply cV_ev3 (by assumption) | apply cM_ev3 (by assumption) | apply cF_pure3 (rdiv_c _ _ bd3 bd3 bd3) | apply cV_pure3 (rdiv_c _ _ bd3 bd3 bd3) | apply cM_pure3 (rdiv_c _ _ bd3 bd3 bd3)) | with_reducible (first | apply gRS (by with_unfolding_all rfl) | apply gR (by with_unfolding_all rfl) | apply gS (by with_unfolding_all rfl) | apply gSB (by with_unfolding_all rfl) | apply gB (by with_unfolding_all rfl) | fail) | (with_reducible apply X_drawC (id := 18) 13; (next => (kernel_rfl)); (next => (kernel_rfl))) | refine X_of _ ?_ | with_reducible (first | exact ⟨_, rfl⟩ | refine And.intro ?_ ?_ | intro _)) <;> try simp -implicitDefEqProofs (maxSteps := 1000000) (disch := first | exact dz3 | fail) only [vcR, vcT, simprocAttr, Ab.part, implies_true, forall_const, vcS, vcXHb, Tryz.f5, hx,hx1,hxs,hge,hlt,hget,hset,hbl,st_bs,xbs_some,gzpc1,zpc1_len,gone_pc,piece_b0,piece_l0,pieceC_length,pieceC_okk,pieceC_one,vcI]))
          refine xappend_row (cs := pcs L.length (sOf L) (aOf vv L)) (sp := sp) (gnews_pc (s := (q : Nat)) (a := vv q) hszz rfl) (fun _ => ⟨rfl, hkc, by rw [hszz]; exact hsp⟩) (by rw [pcs_length, hszz]; omega) (by rw [pieceC_length, hszz]) (gap_pc _ (by omega)) (by rw [pieceC_one]; trivial) (by first | exact fun h => h | (show ¬ (45 = 135); decide)) fun j' c'' sp' H' g1 g2 g3 g4 g5 g6 => ?_
          have hj0 : j' ≠ 0 ∧ j' ≠ 1 := by
            rcases g4 with ⟨_, h⟩ | h
            · omega
            · rw [h]; simp
          have hH0 := g5 0 (by simp) (by decide)
          have hH1 := g5 1 (by simp) (by decide)
          clear g4 g5 g6 hx hx1 hxs
          (repeat' ((first | with_reducible (first | apply XQ_cons | apply XQ_consG | apply XQ_nil | apply XR_make | apply XR_append | apply XR_cons | apply XR_consG | apply XR_nil | apply XM_cons | apply XM_consG | apply XM_nil | apply cF_pure3 (by assumption) | apply cV_pure3 (by assumption) | apply cM_pure3 (by assumption) | apply cF_ev3 (by assumption) | apply cV_ev3 (by assumption) | apply cM_ev3 (by assumption) | apply cF_pure3 (rdiv_c _ _ bd3 bd3 bd3) | apply cV_pure3 (rdiv_c _ _ bd3 bd3 bd3) | apply cM_pure3 (rdiv_c _ _ bd3 bd3 bd3)) | with_reducible (first | apply gRS (by with_unfolding_all rfl) | apply gR (by with_unfolding_all rfl) | apply gS (by with_unfolding_all rfl) | apply gSB (by with_unfolding_all rfl) | apply gB (by with_unfolding_all rfl) | fail) | (with_reducible apply X_drawC (id := 18) 13; (next => (kernel_rfl)); (next => (kernel_rfl))) | refine X_of _ ?_ | with_reducible (first | exact ⟨_, rfl⟩ | refine And.intro ?_ ?_ | intro _)) <;> try simp -implicitDefEqProofs (maxSteps := 1000000) (disch := first | exact dz3 | fail) only [vcR, vcT, simprocAttr, Ab.part, implies_true, forall_const, vcS, vcXHb, Tryz.f5]))
          have hcl : (cho S (i + 1)).length = L.length + 1 := by rw [hcho, hLq]
          refine ⟨(i + 1, c'', sp'), by simp; omega, ⟨⟨by simp; omega, by
            dsimp only
            rw [hcl]
            exact fun _ => ⟨g1, by rw [hszz] at g2; exact g2⟩⟩, [0, 1, j'], ⟨by simp [Ne.symm hj0.1, Ne.symm hj0.2], rfl⟩, ?_, ?_⟩⟩
          · have e1 : (rowS 2 (L.length + 1) c'').ren (lk [0, 1, j']) = .s (.sl j' 0 (L.length + 1) c'') := by rw [ren_rowS, rowS_s (by omega)]; rfl
            dsimp only
            rw [hcl]
            simp -implicitDefEqProofs (maxSteps := 1000000) (disch := first | exact dz3 | fail) only [vcR, vcT, simprocAttr, Ab.part, implies_true, forall_const, vcS, vcXHb, Tryz.f5, renS_cons,renS_nil,ren_v,e1]
            try omega
          · dsimp only
            rw [hcho, rowH_s (by simp : (L ++ [q] : List Nat).length ≠ 0), hb1]
            refine ⟨hH0.trans rfl, hH1.trans rfl, ?_, trivial⟩
            rw [g3]
            exact congrArg (fun x => some (AB.mk _ (x ++ _))) (pcs_cho (L := L) (v := vv) (q := q))
      · have hcho := cho_no hyes
        rw [hL] at hcho hrow hLlt hLnd hLlen
        rw [hL]
        by_cases hs0 : S i ≥ 0
        · by_cases hs10 : S i < 10
          · obtain ⟨q, hq⟩ : ∃ q : Nat, S i = q := ⟨(S i).toNat, by omega⟩
            have hq10 : q < 10 := by omega
            have hqL : q ∈ L := by
              rw [hL] at hyes
              have h : ¬ (S i).toNat ∉ L := fun h => hyes ⟨hs0, hs10, h⟩
              rw [show (S i).toNat = q by omega] at h
              exact Decidable.not_not.1 h
            have hge : ((q : Nat) : Int) ≥ 0 := by omega
            have hlt : ((q : Nat) : Int) < 10 := by omega
            have hget : (bls 10 fun j => decide (j ∈ L))[q]? = some (.v (.bool true)) := by rw [bls_get hq10, decide_eq_true hqL]
            simp only [hq] at hx hx1
            have hcho2 := hcho
            by_cases h0 : L.length = 0
            · have hL0 : L = [] := List.eq_nil_of_length_eq_zero h0
              subst hL0
              (repeat' ((first | with_reducible (first | apply XQ_cons | apply XQ_consG | apply XQ_nil | apply XR_make | apply XR_append | apply XR_cons | apply XR_consG | apply XR_nil | apply XM_cons | apply XM_consG | apply XM_nil | apply cF_pure3 (by assumption) | apply cV_pure3 (by assumption) | apply cM_pure3 (by assumption) | apply cF_ev3 (by assumption) | apply cV_ev3 (by assumption) | apply cM_ev3 (by assumption) | apply cF_pure3 (rdiv_c _ _ bd3 bd3 bd3) | apply cV_pure3 (rdiv_c _ _ bd3 bd3 bd3) | apply cM_pure3 (rdiv_c _ _ bd3 bd3 bd3)) | with_reducible (first | apply gRS (by with_unfolding_all rfl) | apply gR (by with_unfolding_all rfl) | apply gS (by with_unfolding_all rfl) | apply gSB (by with_unfolding_all rfl) | apply gB (by with_unfolding_all rfl) | fail) | (with_reducible apply X_drawC (id := 18) 13; (next => (kernel_rfl)); (next => (kernel_rfl))) | refine X_of _ ?_ | with_reducible (first | exact ⟨_, rfl⟩ | refine And.intro ?_ ?_ | intro _)) <;> try simp -implicitDefEqProofs (maxSteps := 1000000) (disch := first | exact dz3 | fail) only [vcR, vcT, simprocAttr, Ab.part, implies_true, forall_const, vcS, vcXHb, Tryz.f5, hge,hlt,hget,hx,hx1,bls_length,rowS_0,rowH_0,List.length_nil,vcI]))
              refine ⟨(i + 1, c', sp), by simp; omega, ⟨⟨by simp; omega, by simp only [hcho]; exact hrow⟩, [0, 1], ⟨by decide, rfl⟩, ?_, ?_⟩⟩
              · dsimp only
                simp only [hcho, List.length_nil]
                simp -implicitDefEqProofs (maxSteps := 1000000) (disch := first | exact dz3 | fail) only [vcR, vcT, simprocAttr, Ab.part, implies_true, forall_const, vcS, vcXHb, Tryz.f5, renS_cons,renS_nil,ren_v,rowS_0]
              · dsimp only
                simp only [hcho, List.length_nil, rowH_0]
                exact ⟨rfl, rfl, trivial⟩
            · simp only [rowH_s h0, rowS_s h0]
              (repeat' ((first | with_reducible (first | apply XQ_cons | apply XQ_consG | apply XQ_nil | apply XR_make | apply XR_append | apply XR_cons | apply XR_consG | apply XR_nil | apply XM_cons | apply XM_consG | apply XM_nil | apply cF_pure3 (by assumption) | apply cV_pure3 (by assumption) | apply cM_pure3 (by assumption) | apply cF_ev3 (by assumption) | apply cV_ev3 (by assumption) | apply cM_ev3 (by assumption) | apply cF_pure3 (rdiv_c _ _ bd3 bd3 bd3) | apply cV_pure3 (rdiv_c _ _ bd3 bd3 bd3) | apply cM_pure3 (rdiv_c _ _ bd3 bd3 bd3)) | with_reducible (first | apply gRS (by with_unfolding_all rfl) | apply gR (by with_unfolding_all rfl) | apply gS (by with_unfolding_all rfl) | apply gSB (by with_unfolding_all rfl) | apply gB (by with_unfolding_all rfl) | fail) | (with_reducible apply X_drawC (id := 18) 13; (next => (kernel_rfl)); (next => (kernel_rfl))) | refine X_of _ ?_ | with_reducible (first | exact ⟨_, rfl⟩ | refine And.intro ?_ ?_ | intro _)) <;> try simp -implicitDefEqProofs (maxSteps := 1000000) (disch := first | exact dz3 | fail) only [vcR, vcT, simprocAttr, Ab.part, implies_true, forall_const, vcS, vcXHb, Tryz.f5, hge,hlt,hget,hx,hx1,bls_length,vcI]))
              refine ⟨(i + 1, c', sp), by simp; omega, ⟨⟨by simp; omega, by simp only [hcho]; exact hrow⟩, [0, 1, 2], ⟨by decide, rfl⟩, ?_, ?_⟩⟩
              · dsimp only
                simp only [hcho, rowS_s h0]
                simp -implicitDefEqProofs (maxSteps := 1000000) (disch := first | exact dz3 | fail) only [vcR, vcT, simprocAttr, Ab.part, implies_true, forall_const, vcS, vcXHb, Tryz.f5, renS_cons,renS_nil,ren_v]
                all_goals rfl
              · dsimp only
                simp only [hcho, rowH_s h0]
                exact ⟨rfl, rfl, rfl, trivial⟩
          · have hcho2 := hcho
            by_cases h0 : L.length = 0
            · have hL0 : L = [] := List.eq_nil_of_length_eq_zero h0
              subst hL0
              (repeat' ((first | with_reducible (first | apply XQ_cons | apply XQ_consG | apply XQ_nil | apply XR_make | apply XR_append | apply XR_cons | apply XR_consG | apply XR_nil | apply XM_cons | apply XM_consG | apply XM_nil | apply cF_pure3 (by assumption) | apply cV_pure3 (by assumption) | apply cM_pure3 (by assumption) | apply cF_ev3 (by assumption) | apply cV_ev3 (by assumption) | apply cM_ev3 (by assumption) | apply cF_pure3 (rdiv_c _ _ bd3 bd3 bd3) | apply cV_pure3 (rdiv_c _ _ bd3 bd3 bd3) | apply cM_pure3 (rdiv_c _ _ bd3 bd3 bd3)) | with_reducible (first | apply gRS (by with_unfolding_all rfl) | apply gR (by with_unfolding_all rfl) | apply gS (by with_unfolding_all rfl) | apply gSB (by with_unfolding_all rfl) | apply gB (by with_unfolding_all rfl) | fail) | (with_reducible apply X_drawC (id := 18) 13; (next => (kernel_rfl)); (next => (kernel_rfl))) | refine X_of _ ?_ | with_reducible (first | exact ⟨_, rfl⟩ | refine And.intro ?_ ?_ | intro _)) <;> try simp -implicitDefEqProofs (maxSteps := 1000000) (disch := first | exact dz3 | fail) only [vcR, vcT, simprocAttr, Ab.part, implies_true, forall_const, vcS, vcXHb, Tryz.f5, hs0,hs10,hx,hx1,bls_length,rowS_0,rowH_0,List.length_nil,vcI]))
              refine ⟨(i + 1, c', sp), by simp; omega, ⟨⟨by simp; omega, by simp only [hcho]; exact hrow⟩, [0, 1], ⟨by decide, rfl⟩, ?_, ?_⟩⟩
              · dsimp only
                simp only [hcho, List.length_nil]
                simp -implicitDefEqProofs (maxSteps := 1000000) (disch := first | exact dz3 | fail) only [vcR, vcT, simprocAttr, Ab.part, implies_true, forall_const, vcS, vcXHb, Tryz.f5, renS_cons,renS_nil,ren_v,rowS_0]
              · dsimp only
                simp only [hcho, List.length_nil, rowH_0]
                exact ⟨rfl, rfl, trivial⟩
            · simp only [rowH_s h0, rowS_s h0]
              (repeat' ((first | with_reducible (first | apply XQ_cons | apply XQ_consG | apply XQ_nil | apply XR_make | apply XR_append | apply XR_cons | apply XR_consG | apply XR_nil | apply XM_cons | apply XM_consG | apply XM_nil | apply cF_pure3 (by assumption) | apply cV_pure3 (by assumption) | apply cM_pure3 (by assumption) | apply cF_ev3 (by assumption) | apply cV_ev3 (by assumption) | apply cM_ev3 (by assumption) | apply cF_pure3 (rdiv_c _ _ bd3 bd3 bd3) | apply cV_pure3 (rdiv_c _ _ bd3 bd3 bd3) | apply cM_pure3 (rdiv_c _ _ bd3 bd3 bd3)) | with_reducible (first | apply gRS (by with_unfolding_all rfl) | apply gR (by with_unfolding_all rfl) | apply gS (by with_unfolding_all rfl) | apply gSB (by with_unfolding_all rfl) | apply gB (by with_unfolding_all rfl) | fail) | (with_reducible apply X_drawC (id := 18) 13; (next => (kernel_rfl)); (next => (kernel_rfl))) | refine X_of _ ?_ | with_reducible (first | exact ⟨_, rfl⟩ | refine And.intro ?_ ?_ | intro _)) <;> try simp -implicitDefEqProofs (maxSteps := 1000000) (disch := first | exact dz3 | fail) only [vcR, vcT, simprocAttr, Ab.part, implies_true, forall_const, vcS, vcXHb, Tryz.f5, hs0,hs10,hx,hx1,bls_length,vcI]))
              refine ⟨(i + 1, c', sp), by simp; omega, ⟨⟨by simp; omega, by simp only [hcho]; exact hrow⟩, [0, 1, 2], ⟨by decide, rfl⟩, ?_, ?_⟩⟩
              · dsimp only
                simp only [hcho, rowS_s h0]
                simp -implicitDefEqProofs (maxSteps := 1000000) (disch := first | exact dz3 | fail) only [vcR, vcT, simprocAttr, Ab.part, implies_true, forall_const, vcS, vcXHb, Tryz.f5, renS_cons,renS_nil,ren_v]
                all_goals rfl
              · dsimp only
                simp only [hcho, rowH_s h0]
                exact ⟨rfl, rfl, rfl, trivial⟩
        · have hcho2 := hcho
          by_cases h0 : L.length = 0
          · have hL0 : L = [] := List.eq_nil_of_length_eq_zero h0
            subst hL0
            (repeat' ((first | with_reducible (first | apply XQ_cons | apply XQ_consG | apply XQ_nil | apply XR_make | apply XR_append | apply XR_cons | apply XR_consG | apply XR_nil | apply XM_cons | apply XM_consG | apply XM_nil | apply cF_pure3 (by assumption) | apply cV_pure3 (by assumption) | apply cM_pure3 (by assumption) | apply cF_ev3 (by assumption) | apply cV_ev3 (by assumption) | apply cM_ev3 (by assumption) | apply cF_pure3 (rdiv_c _ _ bd3 bd3 bd3) | apply cV_pure3 (rdiv_c _ _ bd3 bd3 bd3) | apply cM_pure3 (rdiv_c _ _ bd3 bd3 bd3)) | with_reducible (first | apply gRS (by with_unfolding_all rfl) | apply gR (by with_unfolding_all rfl) | apply gS (by with_unfolding_all rfl) | apply gSB (by with_unfolding_all rfl) | apply gB (by with_unfolding_all rfl) | fail) | (with_reducible apply X_drawC (id := 18) 13; (next => (kernel_rfl)); (next => (kernel_rfl))) | refine X_of _ ?_ | with_reducible (first | exact ⟨_, rfl⟩ | refine And.intro ?_ ?_ | intro _)) <;> try simp -implicitDefEqProofs (maxSteps := 1000000) (disch := first | exact dz3 | fail) only [vcR, vcT, simprocAttr, Ab.part, implies_true, forall_const, vcS, vcXHb, Tryz.f5, hs0,hx,hx1,bls_length,rowS_0,rowH_0,List.length_nil,vcI]))
            refine ⟨(i + 1, c', sp), by simp; omega, ⟨⟨by simp; omega, by simp only [hcho]; exact hrow⟩, [0, 1], ⟨by decide, rfl⟩, ?_, ?_⟩⟩
            · dsimp only
              simp only [hcho, List.length_nil]
              simp -implicitDefEqProofs (maxSteps := 1000000) (disch := first | exact dz3 | fail) only [vcR, vcT, simprocAttr, Ab.part, implies_true, forall_const, vcS, vcXHb, Tryz.f5, renS_cons,renS_nil,ren_v,rowS_0]
            · dsimp only
              simp only [hcho, List.length_nil, rowH_0]
              exact ⟨rfl, rfl, trivial⟩
          · simp only [rowH_s h0, rowS_s h0]
            (repeat' ((first | with_reducible (first | apply XQ_cons | apply XQ_consG | apply XQ_nil | apply XR_make | apply XR_append | apply XR_cons | apply XR_consG | apply XR_nil | apply XM_cons | apply XM_consG | apply XM_nil | apply cF_pure3 (by assumption) | apply cV_pure3 (by assumption) | apply cM_pure3 (by assumption) | apply cF_ev3 (by assumption) | apply cV_ev3 (by assumption) | apply cM_ev3 (by assumption) | apply cF_pure3 (rdiv_c _ _ bd3 bd3 bd3) | apply cV_pure3 (rdiv_c _ _ bd3 bd3 bd3) | apply cM_pure3 (rdiv_c _ _ bd3 bd3 bd3)) | with_reducible (first | apply gRS (by with_unfolding_all rfl) | apply gR (by with_unfolding_all rfl) | apply gS (by with_unfolding_all rfl) | apply gSB (by with_unfolding_all rfl) | apply gB (by with_unfolding_all rfl) | fail) | (with_reducible apply X_drawC (id := 18) 13; (next => (kernel_rfl)); (next => (kernel_rfl))) | refine X_of _ ?_ | with_reducible (first | exact ⟨_, rfl⟩ | refine And.intro ?_ ?_ | intro _)) <;> try simp -implicitDefEqProofs (maxSteps := 1000000) (disch := first | exact dz3 | fail) only [vcR, vcT, simprocAttr, Ab.part, implies_true, forall_const, vcS, vcXHb, Tryz.f5, hs0,hx,hx1,bls_length,vcI]))
            refine ⟨(i + 1, c', sp), by simp; omega, ⟨⟨by simp; omega, by simp only [hcho]; exact hrow⟩, [0, 1, 2], ⟨by decide, rfl⟩, ?_, ?_⟩⟩
            · dsimp only
              simp only [hcho, rowS_s h0]
              simp -implicitDefEqProofs (maxSteps := 1000000) (disch := first | exact dz3 | fail) only [vcR, vcT, simprocAttr, Ab.part, implies_true, forall_const, vcS, vcXHb, Tryz.f5, renS_cons,renS_nil,ren_v]
              all_goals rfl
            · dsimp only
              simp only [hcho, rowH_s h0]
              exact ⟨rfl, rfl, rfl, trivial⟩
    · have : i = n := by omega
      subst this
      rw [hL] at hrow hLlt hLnd hLlen ⊢
      have e2 := e2 L hLlt (by omega)
      obtain ⟨r1, r2⟩ := e3 L hLlt hLnd
      rw [r1, r2] at e2
      clear e3 r1 r2 hadr hin hi
      have hx2 : ∀ {K : TV → HE → Prop}, xext (cx w w1 w2 N β1 β2) (some true) 4 (ax.add 0) K = K (.agg (nat4 (l 0))) .none := fun {K} => hX2.nat (i := 0) (by omega)
      have e4' := e4 (by omega)
      rw [hu] at e4'
      by_cases hlm : L.length < m
      · rw [if_pos hlm, if_pos hlm] at e2
        have hlm' : ((L.length : Nat) : Int) < ((m : Nat) : Int) := by omega
        by_cases h0 : L.length = 0
        · have hL0 : L = [] := List.eq_nil_of_length_eq_zero h0
          subst hL0
          have e2 := e2 ⟨jc, 0, none⟩ c1 none 0
          have hp0 : Kn (cx w w1 w2 N β1 β2) (pcsAt (modEvo 135) none ([] : List Nat).length (sOf []) (aOf vv [])) := fun _ _ => .inl rfl
          rw [List.length_nil] at e2 hp0 hlm'
          rw [List.length_nil, rowH_0]
          (repeat' ((first | with_reducible (first | apply XQ_cons | apply XQ_consG | apply XQ_nil | apply XR_make | apply XR_append | apply XR_cons | apply XR_consG | apply XR_nil | apply XM_cons | apply XM_consG | apply XM_nil | apply cF_pure3 (by assumption) | apply cV_pure3 (by assumption) | apply cM_pure3 (by assumption) | apply cF_ev3 (by assumption) | apply cV_ev3 (by assumption) | apply cM_ev3 (by assumption) | apply cF_pure3 (rdiv_c _ _ bd3 bd3 bd3) | apply cV_pure3 (rdiv_c _ _ bd3 bd3 bd3) | apply cM_pure3 (rdiv_c _ _ bd3 bd3 bd3)) | with_reducible (first | apply gRS (by with_unfolding_all rfl) | apply gR (by with_unfolding_all rfl) | apply gS (by with_unfolding_all rfl) | fail) | refine X_of _ ?_ | with_reducible (first | exact ⟨_, rfl⟩ | refine And.intro ?_ ?_ | intro _)) <;> try simp -implicitDefEqProofs (maxSteps := 1000000) (disch := first | exact dz3 | fail) only [vcR, vcT, simprocAttr, Ab.part, implies_true, forall_const, vcS, vcXHb, Tryz.f5, rowS_0,hlm',vcI]))
        · rw [rowH_s h0]
          (repeat' ((first | with_reducible (first | apply XQ_cons | apply XQ_consG | apply XQ_nil | apply XR_make | apply XR_append | apply XR_cons | apply XR_consG | apply XR_nil | apply XM_cons | apply XM_consG | apply XM_nil | apply cF_pure3 (by assumption) | apply cV_pure3 (by assumption) | apply cM_pure3 (by assumption) | apply cF_ev3 (by assumption) | apply cV_ev3 (by assumption) | apply cM_ev3 (by assumption) | apply cF_pure3 (rdiv_c _ _ bd3 bd3 bd3) | apply cV_pure3 (rdiv_c _ _ bd3 bd3 bd3) | apply cM_pure3 (rdiv_c _ _ bd3 bd3 bd3)) | with_reducible (first | apply gRS (by with_unfolding_all rfl) | apply gR (by with_unfolding_all rfl) | apply gS (by with_unfolding_all rfl) | fail) | refine X_of _ ?_ | with_reducible (first | exact ⟨_, rfl⟩ | refine And.intro ?_ ?_ | intro _)) <;> try simp -implicitDefEqProofs (maxSteps := 1000000) (disch := first | exact dz3 | fail) only [vcR, vcT, simprocAttr, Ab.part, implies_true, forall_const, vcS, vcXHb, Tryz.f5, rowS_s h0,hlm',vcI]))
          refine yF_evz (fun β' w' hR => ⟨_, e2 ⟨jc, 0, none⟩ c1 (some ⟨β' 2, 0, none⟩) c', ⟨hG2 w' hR.fr.to, hO2 w' hR.fr.to⟩, hC w' hR.fr.to, pcsAt_own hR rfl (by decide)⟩) rfl rfl (by kernel_rfl) ?_
          try simp -implicitDefEqProofs (maxSteps := 1000000) (disch := first | exact dz3 | fail) only [vcR, vcT, simprocAttr, Ab.part, implies_true, forall_const, vcS, vcXHb, Tryz.f5]
          (repeat' ((first | with_reducible (first | apply XQ_cons | apply XQ_consG | apply XQ_nil | apply XR_make | apply XR_append | apply XR_cons | apply XR_consG | apply XR_nil | apply XM_cons | apply XM_consG | apply XM_nil | apply cF_pure3 (by assumption) | apply cV_pure3 (by assumption) | apply cM_pure3 (by assumption) | apply cF_ev3 (by assumption) | apply cV_ev3 (by assumption) | apply cM_ev3 (by assumption) | apply cF_pure3 (rdiv_c _ _ bd3 bd3 bd3) | apply cV_pure3 (rdiv_c _ _ bd3 bd3 bd3) | apply cM_pure3 (rdiv_c _ _ bd3 bd3 bd3)) | with_reducible (first | apply gRS (by with_unfolding_all rfl) | apply gR (by with_unfolding_all rfl) | apply gS (by with_unfolding_all rfl) | fail) | refine X_of _ ?_ | with_reducible (first | exact ⟨_, rfl⟩ | refine And.intro ?_ ?_ | intro _)) <;> try simp -implicitDefEqProofs (maxSteps := 1000000) (disch := first | exact dz3 | fail) only [vcR, vcT, simprocAttr, Ab.part, implies_true, forall_const, vcS, vcXHb, Tryz.f5, rowS_s h0,hlm',vcI]))
      · rw [if_neg hlm, if_neg hlm] at e2
        have hlm' : ¬ ((L.length : Nat) : Int) < ((m : Nat) : Int) := by omega
        have h0 : L.length ≠ 0 := by omega
        have e5 := e5 ⟨jc, 0, none⟩ c1
        rw [rowH_s h0]
        (repeat' ((first | with_reducible (first | apply XQ_cons | apply XQ_consG | apply XQ_nil | apply XR_make | apply XR_append | apply XR_cons | apply XR_consG | apply XR_nil | apply XM_cons | apply XM_consG | apply XM_nil | apply cF_pure3 (by assumption) | apply cV_pure3 (by assumption) | apply cM_pure3 (by assumption) | apply cF_ev3 (by assumption) | apply cV_ev3 (by assumption) | apply cM_ev3 (by assumption) | apply cF_pure3 (rdiv_c _ _ bd3 bd3 bd3) | apply cV_pure3 (rdiv_c _ _ bd3 bd3 bd3) | apply cM_pure3 (rdiv_c _ _ bd3 bd3 bd3)) | with_reducible (first | apply gRS (by with_unfolding_all rfl) | apply gR (by with_unfolding_all rfl) | apply gS (by with_unfolding_all rfl) | fail) | refine X_of _ ?_ | with_reducible (first | exact ⟨_, rfl⟩ | refine And.intro ?_ ?_ | intro _)) <;> try simp -implicitDefEqProofs (maxSteps := 1000000) (disch := first | exact dz3 | fail) only [vcR, vcT, simprocAttr, Ab.part, implies_true, forall_const, vcS, vcXHb, Tryz.f5, rowS_s h0,hlm',hx2,vcI]))
        refine yF_evz (fun β' w' hR => ⟨_, e2 ⟨jc, 0, none⟩ c1 (some ⟨β' 2, 0, none⟩) c', ⟨hG2 w' hR.fr.to, hO2 w' hR.fr.to⟩, hC w' hR.fr.to, pcsAt_own hR rfl (by decide)⟩) rfl rfl (by kernel_rfl) ?_
        try simp -implicitDefEqProofs (maxSteps := 1000000) (disch := first | exact dz3 | fail) only [vcR, vcT, simprocAttr, Ab.part, implies_true, forall_const, vcS, vcXHb, Tryz.f5]
        (repeat' ((first | with_reducible (first | apply XQ_cons | apply XQ_consG | apply XQ_nil | apply XR_make | apply XR_append | apply XR_cons | apply XR_consG | apply XR_nil | apply XM_cons | apply XM_consG | apply XM_nil | apply cF_pure3 (by assumption) | apply cV_pure3 (by assumption) | apply cM_pure3 (by assumption) | apply cF_ev3 (by assumption) | apply cV_ev3 (by assumption) | apply cM_ev3 (by assumption)) | with_reducible (first | apply gRS (by with_unfolding_all rfl) | apply gR (by with_unfolding_all rfl) | apply gS (by with_unfolding_all rfl) | fail) | (with_reducible apply X_drawM (id := 22) 10 [] trHW5n5x22; (next => (kernel_rfl)); (next => (kernel_rfl))) | refine X_of _ ?_ | with_reducible (first | exact ⟨_, rfl⟩ | refine And.intro ?_ ?_ | intro _)) <;> try simp -implicitDefEqProofs (maxSteps := 1000000) (disch := first | exact dz3 | fail) only [vcR, vcT, simprocAttr, Ab.part, implies_true, forall_const, vcS, vcXHb, Tryz.f5, rowS_s h0,hlm',hx2,litsEq_self,vcI, trHW5n5x22]))
open Go Go.Ab Go.ChangeShapes Go.WideShapes Go.ChangeAt Go.RowKit
theorem glob0 : Tryz.prog.globalNamed "sortition/group.low" = some 0 := by kernel_rfl
theorem glob1 : Tryz.prog.globalNamed "sortition/group.two" = some 1 := by kernel_rfl
theorem glob2 : Tryz.prog.globalNamed "sortition/group.one" = some 2 := by kernel_rfl
theorem glob3 : Tryz.prog.globalNamed "sortition/pratt.least" = some 3 := by kernel_rfl
theorem globT0 : (Tryz.prog.globals[0]?).map (·.type) = some 26 := by kernel_rfl
theorem globT1 : (Tryz.prog.globals[1]?).map (·.type) = some 26 := by kernel_rfl
theorem globT2 : (Tryz.prog.globals[2]?).map (·.type) = some 26 := by kernel_rfl
theorem globT3 : (Tryz.prog.globals[3]?).map (·.type) = some 26 := by kernel_rfl
set_option maxRecDepth 100000 in
theorem gnat_of_laid {n : String} {g v : Nat} {z : Int} {r : List (String × DataW Unit)} {W : World} {ps : List MemPlace} (hn : Tryz.prog.globalNamed n = some g) (hT : (Tryz.prog.globals[g]?).map (·.type) = some 26)
    (hv0 : natsG (fun _ => v) 0 = .int .u64 z) (hv1 : natsG (fun _ => v) 1 = .int .u64 0) (hv2 : natsG (fun _ => v) 2 = .int .u64 0) (hv3 : natsG (fun _ => v) 3 = .int .u64 0)
    (h : DataW.LaidVars Tryz.prog W ((n, .agg [.lit (.int .u64 z), .lit (.int .u64 0), .lit (.int .u64 0), .lit (.int .u64 0)]) :: r) ps) : gnat g v W ∧ ∃ q, DataW.LaidVars Tryz.prog W r q := by
  obtain ⟨g', t, cs, fuel, p, q, hg, ht, hc, htr, hr, _⟩ := h
  refine ⟨?_, q, hr⟩
  obtain rfl := Option.some.inj (hn.symm.trans hg)
  obtain rfl := Option.some.inj (hT.symm.trans ht)
  obtain ⟨xs, m, _, hx, hl, hxl, hi⟩ := DataW.trod_array tf26_u htr
  have hce : Tryz.prog.cellsOf 24 = 1 := by kernel_rfl
  have hc4 : Tryz.prog.cellsOf 26 = 4 := by kernel_rfl
  rw [hc4] at hl
  injection hx with hx _
  have hx' : ([.lit (.int .u64 z), .lit (.int .u64 0), .lit (.int .u64 0), .lit (.int .u64 0)] : List (DataW Unit)) = xs.map (·.1) := by
    have h1 : (DataW.agg [.lit (.int .u64 z), .lit (.int .u64 0), .lit (.int .u64 0), .lit (.int .u64 0)] : DataW Unit) = .agg (xs.map (·.1)) := hx
    injection h1
  have cell : ∀ i, i < 4 → ∀ y : Int, ([.lit (.int .u64 z), .lit (.int .u64 0), .lit (.int .u64 0), .lit (.int .u64 0)] : List (DataW Unit))[i]? = some (.lit (.int .u64 y)) → cs[i]? = some (.int .u64 y) := by
    intro i h4 y hy
    have h1 := hi i h4
    rw [List.getElem?_eq_getElem (by omega), hce, Nat.mul_one] at h1
    obtain ⟨n, hn, hxn, _⟩ := DataW.trod_int (by kernel_rfl : Tryz.prog.underlying 24 = some (.int .u64)) h1
    rw [hx', List.getElem?_map, List.getElem?_eq_getElem (by omega), Option.map_some, hxn] at hy
    injection hy with hy
    injection hy with hy
    injection hy with _ hy
    subst hy
    have h2 := congrArg (·[0]?) hn
    simpa [List.getElem?_take, List.getElem?_drop] using h2
  unfold World.var? at hc
  rw [hn, Option.bind_some] at hc
  split at hc
  · rename_i c t f hk
    injection hc with hc
    subst hc
    refine ⟨_, _, _, hk, fun i h4 => ?_⟩
    rcases i with _ | _ | _ | _ | i
    · rw [hv0]; exact cell 0 h4 z rfl
    · rw [hv1]; exact cell 1 h4 0 rfl
    · rw [hv2]; exact cell 2 h4 0 rfl
    · rw [hv3]; exact cell 3 h4 0 rfl
    · omega
  · cases hc
theorem gv_of_laid {W : World} (h : laidMetH Tryz.prog Rows.shareDealsRow.laid W) : gv W := by
  have h' : laidMet Tryz.prog [("sortition/pratt.least", Rows.laid_sortition_pratt_least), ("sortition/group.one", Rows.laid_sortition_group_one), ("sortition/group.two", Rows.laid_sortition_group_two), ("sortition/group.low", Rows.laid_sortition_group_low)] W := h
  obtain ⟨ps, h1, _⟩ := h'
  obtain ⟨g3, q1, h2⟩ := gnat_of_laid (v := 2) (z := 2) glob3 globT3 rfl rfl rfl rfl h1
  obtain ⟨g2, q2, h3⟩ := gnat_of_laid (v := 1) (z := 1) glob2 globT2 rfl rfl rfl rfl h2
  obtain ⟨g1, q3, h4⟩ := gnat_of_laid (v := 2) (z := 2) glob1 globT1 rfl rfl rfl rfl h3
  obtain ⟨g0, q4, h5⟩ := gnat_of_laid (v := 5) (z := 5) glob0 globT0 rfl rfl rfl rfl h4
  exact ⟨g3, g0, g1, g2⟩
noncomputable def laidWorld (os : Os) : World :=
  let w0 := World.holding Tryz.prog os ⟨#[], #[], []⟩
  { w0 with heap := (((w0.heap.modify 0 fun
      | .cells _ t frozen => .cells #[.int .u64 5, .int .u64 0, .int .u64 0, .int .u64 0] t frozen
      | o => o).modify 1 fun
      | .cells _ t frozen => .cells #[.int .u64 2, .int .u64 0, .int .u64 0, .int .u64 0] t frozen
      | o => o).modify 2 fun
      | .cells _ t frozen => .cells #[.int .u64 1, .int .u64 0, .int .u64 0, .int .u64 0] t frozen
      | o => o).modify 3 fun
      | .cells _ t frozen => .cells #[.int .u64 2, .int .u64 0, .int .u64 0, .int .u64 0] t frozen
      | o => o }
theorem law_lifted2 {H : Type} {enc : TypeId × Value → H} {C : Checked} {os : Os} {f : FuncId} {fn : Func} {s : ChangeSpec} {fresh handsOn again : Bool} {tb : TypeId} {X : World → Array Value → Prop} (hX : ∀ (w w' : World) (args : Array Value), w.heap = w'.heap → X w args → X w' args)
    (own : ownKnob C.prog.godebug = none) (started : os.Started) (noInit : C.prog.inits.idxOf? f = none) (hfn : C.prog.funcs[f]? = some fn) (hl : laidOutB C.prog = true)
    (witness : ∃ (w : World) (tape : Tape) (i : Input), w.os = os ∧ (w.forCall tape i).Shaped C.prog ∧ i.vars = [] ∧ Input.okWide C.prog (w.forCall tape i) .any w.heap.size f i ∧
      ((s.pre enc C.prog fn [] false (w.forCall tape i).memory i.args ∧ X (w.forCall tape i).memory i.args) ∧ sizedMet enc C.prog fn (OpenSpec.ofChange s) false (w.forCall tape i).memory i.args) ∧ ({} : Assume).holds C.prog (lone (Frame.enter C.prog f i.args .normal) [] (w.forCall tape i)))
    (hv : s.vars = []) (hs : ∀ ds : List (DataW H), ds.length = fn.params.toList.length → s.fn H ds = { results := [.lit (.bool true)], args := ds })
    (hrt : fn.resultTypes = #[tb]) (htb : C.prog.underlying tb = some .bool)
    (hp : ∀ t ∈ fn.params.toList, C.prog.readableRec t = true ∧ t < C.prog.types.size)
    (walk : ∀ (W : World) (base : Nat) (args : Array Value) (ds : List (DataW H)) (ps : List MemPlace),
      (∀ (j : Nat) t v, fn.params[j]? = some t → args[j]? = some v → Value.okWide C.prog W .any base t v) → DataW.TrodAll enc C.prog W 0 (fun _ => true) true fn.params.toList args.toList ds ps →
      X W args → Calls C.prog f args W fun e W' => e = .returned (.bool true) ∧ Below W.heap.size W W') :
    ReturnsInHanded {} C os f .any (fun w args => (s.pre enc C.prog fn [] false w args ∧ X w args) ∧ sizedMet enc C.prog fn (OpenSpec.ofChange s) false w args) (s.post enc C.prog fn false fresh handsOn again) := by
  refine returnsInHanded_of_change_and hX own started noInit hfn witness ?_
  intro W base args ds gs before hval hW _ _ hXX _
  have hW' := hW
  have hlt : ∀ x ∈ before, x.block < W.heap.size := fun x hx => hW.lt x hx
  obtain ⟨p, q, hA, hV, rfl, hfz, hnd⟩ := hW
  rw [hv] at hV
  obtain ⟨rfl, rfl⟩ := trodVars_none hV
  simp only [List.append_nil] at hW' hlt hfz
  refine (walk W base args ds p hval hA hXX).mono fun e W' ⟨he, hb⟩ => ⟨_, he, ?_⟩
  have hfn' := hs ds (trodAll_len hA).1
  refine post_of_below (pa := p) (pv := []) hW' (fun b sp hd => ?_) (fun sp hsp => ?_) (fun sp _ => ?_) (by simp) hb ?_
  · rw [List.append_nil, hfn', hrt]
    exact trodAll_mk1 (shut_bool htb true)
  · rw [List.append_nil, hfn']
    exact trodAll_stays hl hb hp hA hlt hsp
  · rw [List.append_nil, hfn', hv]
    rfl
  · exact ok_one hrt rfl (okWide_bool_mk htb true)
theorem slcInts : Tryz.prog.underlying 55 = some (.slice 3) := by kernel_rfl
def IntsT (W : World) (cs : List Value) : Prop := ∃ (y : Option Addr) (n c : Nat) (S : Nat → Int), cs = [.slice y n c] ∧ n < 9223372036854775808 ∧ n ≤ c ∧ (∀ i, -9223372036854775808 ≤ S i ∧ S i < 9223372036854775808) ∧ intsAt (modEvo 135) y n S W.heap.size W
theorem intsT_of {W : World} {cs : List Value} (h : ∃ (y : Option Addr) (n c : Nat), cs = [.slice y n c] ∧ n < 9223372036854775808 ∧ n ≤ c ∧
    (n = 0 ∨ ∃ ad, y = some ad ∧ ad.spot = none ∧ ∃ cc tt ff, W.heap[ad.block]? = some (.cells cc tt ff) ∧ ∀ i, i < n → ∃ l, (∃ z : Int, (-9223372036854775808 ≤ z ∧ z < 9223372036854775808) ∧ l = [.int .i64 z]) ∧ l.length = 1 ∧ ∀ k, k < 1 → cc[ad.off + (i * 1 + k)]? = l[k]?)) : IntsT W cs := by
  obtain ⟨y, n, c, hcs, hn, hc, h⟩ := h
  rcases h with h | ⟨ad, hy, hs, cc, tt, ff, hk, h⟩
  · exact ⟨y, n, c, fun _ => 0, hcs, hn, hc, fun _ => by show -9223372036854775808 ≤ (0 : Int) ∧ (0 : Int) < 9223372036854775808; decide, .inl h⟩
  · have key : ∀ i, i < n → ∃ z : Int, (-9223372036854775808 ≤ z ∧ z < 9223372036854775808) ∧ cc[ad.off + i]? = some (.int .i64 z) := by
      intro i hi
      obtain ⟨l, ⟨z, hz, rfl⟩, _, hl⟩ := h i hi
      have h0 := hl 0 (by decide)
      rw [Nat.mul_one, Nat.add_zero] at h0
      exact ⟨z, hz, h0⟩
    refine ⟨y, n, c, fun i => if h : i < n then (key i h).choose else 0, hcs, hn, hc, fun i => ?_, .inr ⟨ad, hy, hs, cc, tt, ff, hk, .inl (Array.getElem?_eq_some_iff.1 hk).1, fun j hj => ?_⟩⟩
    · by_cases hi : i < n
      · simp only [hi, dite_true]; exact (key i hi).choose_spec.1
      · simp only [hi, dite_false]; decide
    · rw [(key j hj).choose_spec.2]
      simp only [hj, dite_true]
theorem cellsInts : Cells Tryz.prog 55 1 IntsT := by
  have h2 := cells_slice slcInts (cells_int (P := Tryz.prog) (t := 3) (by kernel_rfl) (by kernel_rfl)) (by decide) (by kernel_rfl)
  exact ⟨h2.1, fun H enc W base sp held fuel cs x hx => ⟨(h2.2 H enc W base sp held fuel cs x hx).1, intsT_of (h2.2 H enc W base sp held fuel cs x hx).2⟩⟩
section
variable {H : Type} {enc : TypeId × Value → H} {W : World} {base b0 : Nat} {sp : Nat → Bool} {held : Bool} {r : Reach} {v : Value} {d : DataW H} {ps : List MemPlace}
theorem open_ints (hval : Value.okWide Tryz.prog W r b0 55 v) (hd : DataW.Trod enc Tryz.prog W base sp held 55 v d ps) :
    ∃ (x : Option Addr) (n c : Nat) (S : Nat → Int), v = .slice x n c ∧ n < 9223372036854775808 ∧ n ≤ c ∧ (∀ i, -9223372036854775808 ≤ S i ∧ S i < 9223372036854775808) ∧ intsAt (modEvo 135) x n S W.heap.size W := by
  obtain ⟨x, n, c, rfl⟩ := okWide_slice slcInts hval
  obtain ⟨fuel, hf⟩ := hd
  obtain ⟨y, m, k, S, he, h1, h2, h3, h4⟩ := (cellsInts.2 _ _ _ _ _ _ _ _ _ hf).2
  have he' : [Value.slice x n c] = [Value.slice y m k] := he
  injection he' with he' _
  injection he' with e1 e2 e3
  subst e1; subst e2; subst e3
  exact ⟨x, n, c, S, rfl, h1, h2, h3, h4⟩
end
end Go.Proofs.YtdmcknmjdlghgaaGreatDoor
