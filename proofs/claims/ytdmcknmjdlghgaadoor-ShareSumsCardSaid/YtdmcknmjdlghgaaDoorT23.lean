/-
 ShareSums: shares of two secrets add up.
-/
import Derived.Test.YtdmcknmjdlghgaaDoorT01
import Derived.Test.YtdmcknmjdlghgaaDoorT02
import Derived.Test.YtdmcknmjdlghgaaDoorT03
import Derived.Test.YtdmcknmjdlghgaaDoorT05
import Derived.Test.YtdmcknmjdlghgaaDoorT06
import Derived.Test.YtdmcknmjdlghgaaDoorT07
import Derived.Test.YtdmcknmjdlghgaaDoorT12
import Derived.Test.YtdmcknmjdlghgaaDoorT13
import Derived.Test.YtdmcknmjdlghgaaDoorT14
import Derived.Test.YtdmcknmjdlghgaaDoorT15
import Derived.Test.YtdmcknmjdlghgaaDoorT17
namespace Go.Proofs.YtdmcknmjdlghgaaDoor
open Go Go.Ab
set_option linter.unusedSimpArgs false
set_option linter.unusedVariables false
set_option linter.defProp false
set_option maxHeartbeats 20000000
set_option maxRecDepth 100000
noncomputable abbrev cx (w w1 w2 : World) (β1 β2 : Nat → Nat) : Ctx := ((ctx0 Tryd.prog w).after (modEvo 108) w.heap.size w1 β1 []).after (modEvo 108) w.heap.size w2 β2 []
theorem shareSums_m (z : Int) (hz : IntKind.i64.min ≤ z ∧ z ≤ IntKind.i64.max) (x : Option Addr) (n c : Nat) (l : Nat → Nat) (hl : ∀ i, l i < 2 ^ 256) (hn : n < 9223372036854775808) (hnc : n ≤ c)
  (y : Option Addr) (m d : Nat) (r : Nat → Nat) (hr : ∀ i, r i < 2 ^ 256) (hm : m < 9223372036854775808) (hmd : m ≤ d) (s : Int) (hs : IntKind.i64.min ≤ s ∧ s ≤ IntKind.i64.max) :
  PureM Tryd.prog 12 [.s (.v (.int .i64 z)), .s (.v (.slice x n c)), .s (.v (.slice y m d)), .s (.v (.int .i64 s))] (fun w => natsAt (modEvo 108) x n l w.heap.size w ∧ natsAt (modEvo 108) y m r w.heap.size w ∧ gv w) (.s (.v (.bool true))) := by
 clear hz hnc hmd hs
 have hsm := lsmall_g z
 have hok := sm_ok z
 obtain ⟨P, hP⟩ : ∃ P, smP z = P := ⟨_, rfl⟩
 obtain ⟨Q, hQ⟩ : ∃ Q, smQ z = Q := ⟨_, rfl⟩
 have hQ10 : 10 < Q := by rw [← hQ]; exact smQ_10 z
 rw [hP, hQ] at hsm hok
 clear hP hQ
 have haw := shawake_m.ev (V := Evo.none)
 (refine pureM_of Tryd.func12 rfl (by simp only [List.length_cons, List.length_nil, List.map_cons, List.map_nil, List.nodup_cons, List.nodup_nil, List.mem_cons, Nat.reduceAdd, Nat.reduceEqDiff, or_false, not_false_eq_true, forall_eq_or_imp, forall_eq, or_self, Nat.reduceLT, Nat.reduceLeDiff, and_self, List.forall_mem_cons, List.not_mem_nil, false_implies, implies_true, and_true, true_and, vcOHb]) (by simp only [List.length_cons, List.length_nil, List.map_cons, List.map_nil, List.nodup_cons, List.nodup_nil, List.mem_cons, Nat.reduceAdd, Nat.reduceEqDiff, or_false, not_false_eq_true, forall_eq_or_imp, forall_eq, or_self, Nat.reduceLT, Nat.reduceLeDiff, and_self, List.forall_mem_cons, List.not_mem_nil, false_implies, implies_true, and_true, true_and, vcOHb]) fun w hpre => ?_; simp only [List.length_cons, List.length_nil, Tryd.ntmps12, Nat.reduceAdd, Nat.reduceSub, List.replicate_succ, List.replicate_zero, List.cons_append, List.nil_append])
 have hgv := gv_kn (P0 := Tryd.prog) hpre.2.2
 (repeat' ((first | with_reducible (first | apply XR_append | apply XR_cons | apply XR_consG | apply XR_nil | apply XM_cons | apply XM_consG | apply XM_nil | apply cF_pure3 (by assumption) | apply cM_pure3 (by assumption) | apply cF_ev3 (by assumption) | apply cM_ev3 (by assumption) | apply cF_ev3 (plus_e _ _ _ _ bd3 bd3 bd3) | apply cM_ev3 (plus_e _ _ _ _ bd3 bd3 bd3)) | with_reducible (first | apply gRS (by with_unfolding_all rfl) | apply gR (by with_unfolding_all rfl) | apply gS (by with_unfolding_all rfl) | fail) | refine X_of _ ?_ | with_reducible (first | exact ⟨_, rfl⟩ | refine And.intro ?_ ?_ | intro _)) <;> try simp -implicitDefEqProofs (maxSteps := 1000000) (disch := first | exact dz3 | fail) only [vcR, vcT, simprocAttr, Ab.part, implies_true, forall_const, true_or, Option.isNone_some, Option.isNone_none, vcXHb, Tryd.f12, List.toList_toArray, arr4_zero, nat4_set1, nat4_setL, nat4_set0]))
 refine yF_lsmall (N := 0) hsm hgv rfl (fun _ h => h) rfl ?_
 intro bx bq
 (try (first | with_reducible refine X_regRS ?_ | with_reducible refine X_regR ?_ | (with_reducible refine X_seqX ?_; with_reducible refine X_blockX ?_; with_reducible refine X_regR ?_))); (repeat ((first | with_reducible refine XR_make ?_ | with_reducible refine XR_append ?_ | with_reducible refine XR_cons ?_ | with_reducible refine XR_consG ?_ | with_reducible refine XR_nil ?_); try simp -implicitDefEqProofs (maxSteps := 1000000) (disch := first | exact dz3 | fail) only [vcR, vcT, simprocAttr, Ab.part, implies_true, forall_const, true_or, Option.isNone_some, Option.isNone_none, vcXHb, Tryd.f12, List.toList_toArray]))
 refine X_grp 0 1 2 [] rfl rfl rfl hok.gr.1 hok.gr.2.1 (by decide) (by simp) (by simp) (by simp) (by simp [pickH_nil]) fun β1 w1 hR1 hG hK => ?_
 have hO := gv_one hpre.2.2 hR1 (L := []) (fun i hi => by simp at hi)
 have hNx := hK _ (natsAt_stays _ x n l) hpre.1
 have hNy := hK _ (natsAt_stays _ y m r) hpre.2.1
 have hax : n ≠ 0 → ∃ ad, x = some ad := fun h => by
  rcases hpre.1 with h0 | ⟨ad, h0, _⟩
  ·omega
  ·exact ⟨ad, h0⟩
 have hay : m ≠ 0 → ∃ ad, y = some ad := fun h => by
  rcases hpre.2.1 with h0 | ⟨ad, h0, _⟩
  ·omega
  ·exact ⟨ad, h0⟩
 clear hR1 hK hgv hpre haw hsm
 simp -implicitDefEqProofs (maxSteps := 1000000) (disch := first | exact dz3 | fail) only [vcR, vcT, simprocAttr, Ab.part, implies_true, forall_const, true_or, Option.isNone_some, Option.isNone_none, vcXHb, Tryd.f12, List.toList_toArray]
 obtain ⟨k, hk⟩ : ∃ k, β1 0 = k := ⟨_, rfl⟩
 obtain ⟨kx, hkx⟩ : ∃ k, β1 1 = k := ⟨_, rfl⟩
 obtain ⟨kq, hkq⟩ : ∃ k, β1 2 = k := ⟨_, rfl⟩
 rw [hk, hkx, hkq] at hG
 have hOP := hok.gr.1
 have hOQ := hok.gr.2.1
 have hP2 := hOP.lt
 have hQ2 := hOQ.lt
 by_cases h1 : (n : Int) < 1
 ·clear hl hr
  (repeat' ((first | with_reducible (first | apply XR_append | apply XR_cons | apply XR_consG | apply XR_nil | apply XM_cons | apply XM_consG | apply XM_nil | apply cF_pure3 (by assumption) | apply cM_pure3 (by assumption) | apply cF_ev3 (by assumption) | apply cM_ev3 (by assumption) | apply cF_ev3 (plus_e _ _ _ _ bd3 bd3 bd3) | apply cM_ev3 (plus_e _ _ _ _ bd3 bd3 bd3)) | with_reducible (first | apply gRS (by with_unfolding_all rfl) | apply gR (by with_unfolding_all rfl) | apply gS (by with_unfolding_all rfl) | fail) | refine X_of _ ?_ | with_reducible (first | exact ⟨_, rfl⟩ | refine And.intro ?_ ?_ | intro _)) <;> try simp -implicitDefEqProofs (maxSteps := 1000000) (disch := first | exact dz3 | fail) only [vcR, vcT, simprocAttr, Ab.part, implies_true, forall_const, true_or, Option.isNone_some, Option.isNone_none, vcXHb, Tryd.f12, List.toList_toArray, arr4_zero, nat4_set1, nat4_setL, nat4_set0, hk,h1]))
 by_cases h2 : (n : Int) > 6
 ·clear hl hr
  (repeat' ((first | with_reducible (first | apply XR_append | apply XR_cons | apply XR_consG | apply XR_nil | apply XM_cons | apply XM_consG | apply XM_nil | apply cF_pure3 (by assumption) | apply cM_pure3 (by assumption) | apply cF_ev3 (by assumption) | apply cM_ev3 (by assumption) | apply cF_ev3 (plus_e _ _ _ _ bd3 bd3 bd3) | apply cM_ev3 (plus_e _ _ _ _ bd3 bd3 bd3)) | with_reducible (first | apply gRS (by with_unfolding_all rfl) | apply gR (by with_unfolding_all rfl) | apply gS (by with_unfolding_all rfl) | fail) | refine X_of _ ?_ | with_reducible (first | exact ⟨_, rfl⟩ | refine And.intro ?_ ?_ | intro _)) <;> try simp -implicitDefEqProofs (maxSteps := 1000000) (disch := first | exact dz3 | fail) only [vcR, vcT, simprocAttr, Ab.part, implies_true, forall_const, true_or, Option.isNone_some, Option.isNone_none, vcXHb, Tryd.f12, List.toList_toArray, arr4_zero, nat4_set1, nat4_setL, nat4_set0, hk,h1,h2]))
 by_cases h3 : (m : Int) = (n : Int)
 case neg =>
  have h3' : ((m : Int) != (n : Int)) = true := by simpa using h3
  clear hl hr
  (repeat' ((first | with_reducible (first | apply XR_append | apply XR_cons | apply XR_consG | apply XR_nil | apply XM_cons | apply XM_consG | apply XM_nil | apply cF_pure3 (by assumption) | apply cM_pure3 (by assumption) | apply cF_ev3 (by assumption) | apply cM_ev3 (by assumption) | apply cF_ev3 (plus_e _ _ _ _ bd3 bd3 bd3) | apply cM_ev3 (plus_e _ _ _ _ bd3 bd3 bd3)) | with_reducible (first | apply gRS (by with_unfolding_all rfl) | apply gR (by with_unfolding_all rfl) | apply gS (by with_unfolding_all rfl) | fail) | refine X_of _ ?_ | with_reducible (first | exact ⟨_, rfl⟩ | refine And.intro ?_ ?_ | intro _)) <;> try simp -implicitDefEqProofs (maxSteps := 1000000) (disch := first | exact dz3 | fail) only [vcR, vcT, simprocAttr, Ab.part, implies_true, forall_const, true_or, Option.isNone_some, Option.isNone_none, vcXHb, Tryd.f12, List.toList_toArray, arr4_zero, nat4_set1, nat4_setL, nat4_set0, hk,h1,h2,h3']))
 have hmn : m = n := by omega
 subst hmn
 by_cases h4 : s < 0
 ·clear hl hr
  (repeat' ((first | with_reducible (first | apply XR_append | apply XR_cons | apply XR_consG | apply XR_nil | apply XM_cons | apply XM_consG | apply XM_nil | apply cF_pure3 (by assumption) | apply cM_pure3 (by assumption) | apply cF_ev3 (by assumption) | apply cM_ev3 (by assumption) | apply cF_ev3 (plus_e _ _ _ _ bd3 bd3 bd3) | apply cM_ev3 (plus_e _ _ _ _ bd3 bd3 bd3)) | with_reducible (first | apply gRS (by with_unfolding_all rfl) | apply gR (by with_unfolding_all rfl) | apply gS (by with_unfolding_all rfl) | fail) | refine X_of _ ?_ | with_reducible (first | exact ⟨_, rfl⟩ | refine And.intro ?_ ?_ | intro _)) <;> try simp -implicitDefEqProofs (maxSteps := 1000000) (disch := first | exact dz3 | fail) only [vcR, vcT, simprocAttr, Ab.part, implies_true, forall_const, true_or, Option.isNone_some, Option.isNone_none, vcXHb, Tryd.f12, List.toList_toArray, arr4_zero, nat4_set1, nat4_setL, nat4_set0, hk,h1,h2,h4,bne_self_eq_false]))
 by_cases h5 : s > 9
 ·clear hl hr
  (repeat' ((first | with_reducible (first | apply XR_append | apply XR_cons | apply XR_consG | apply XR_nil | apply XM_cons | apply XM_consG | apply XM_nil | apply cF_pure3 (by assumption) | apply cM_pure3 (by assumption) | apply cF_ev3 (by assumption) | apply cM_ev3 (by assumption) | apply cF_ev3 (plus_e _ _ _ _ bd3 bd3 bd3) | apply cM_ev3 (plus_e _ _ _ _ bd3 bd3 bd3)) | with_reducible (first | apply gRS (by with_unfolding_all rfl) | apply gR (by with_unfolding_all rfl) | apply gS (by with_unfolding_all rfl) | fail) | refine X_of _ ?_ | with_reducible (first | exact ⟨_, rfl⟩ | refine And.intro ?_ ?_ | intro _)) <;> try simp -implicitDefEqProofs (maxSteps := 1000000) (disch := first | exact dz3 | fail) only [vcR, vcT, simprocAttr, Ab.part, implies_true, forall_const, true_or, Option.isNone_some, Option.isNone_none, vcXHb, Tryd.f12, List.toList_toArray, arr4_zero, nat4_set1, nat4_setL, nat4_set0, hk,h1,h2,h4,h5,bne_self_eq_false]))
 obtain ⟨i, rfl⟩ : ∃ i : Nat, s = i := ⟨s.toNat, by omega⟩
 have hm0 : m ≠ 0 := by omega
 obtain ⟨ax, rfl⟩ := hax hm0
 obtain ⟨ay, rfl⟩ := hay hm0
 have hN0 : NeZero Q := ⟨by omega⟩
 have hg1 := hok.gr.2.2.2.2.2.2
 have e1 := commit_n k kx kq P Q 4 (some ax) m c l (by decide) hl (by omega)
 have e2 := commit_n k kx kq P Q 4 (some ay) m d r (by decide) hr (by omega)
 have e3 : ∀ j, EvC (modEvo 108) Tryd.prog 26 [.s (.v (.pointer (some ⟨k, 0, none⟩))), .agg (nat4 (comN P 4 l j)), .agg (nat4 (comN P 4 r j))]
   (fun B w => GK k kx kq P Q 4 B w ∧ oneK B w) (.tup [.agg (nat4 (comN P 4 (fun j => l j + r j) j)), .s (.v (.int .i64 0))]) := fun j => by
  have hm1 : memB P Q (comN P 4 l j) = true := mem_pow hOP.gt hOQ.pos hg1
  have hm2 : memB P Q (comN P 4 r j) = true := mem_pow hOP.gt hOQ.pos hg1
  have h := gTimes_e k kx kq P Q 4 (comN P 4 l j) (comN P 4 r j) hP2 hQ2 hOP.mod_lt hOP.mod_lt
  rw [tmV hm1 hm2, tmE1 hm1 hm2] at h
  have e : comN P 4 l j * comN P 4 r j % P = comN P 4 (fun j => l j + r j) j := by
   show 4 ^ l j % P * (4 ^ r j % P) % P = 4 ^ (l j + r j) % P
   rw [← Nat.mul_mod, ← Nat.pow_add]
  rwa [e] at h
 have e4 := value_e k kx kq P Q 4 (some ax) m c l (i : Int) hl (by omega) (by omega) (by omega)
 have e5 := value_e k kx kq P Q 4 (some ay) m d r (i : Int) hr (by omega) (by omega) (by omega)
 have e6 := plus_e kq Q (valN Q l m (i : Int)) (valN Q r m (i : Int)) hOQ (hrn_lt hOQ _ _ _ _) (hrn_lt hOQ _ _ _ _)
 rw [← valN_add] at e6
 have hc2 : ∀ j, comN P 4 (fun j => l j + r j) j < 2 ^ 256 := fun j => hOP.mod_lt
 have hv2 : valN Q (fun j => l j + r j) m (i : Int) < 2 ^ 256 := hrn_lt hOQ _ _ _ _
 have e7 := fun ad c1 => right_e k kx kq P Q 4 (some ad) m c1 (comN P 4 fun j => l j + r j) (i : Int) (valN Q (fun j => l j + r j) m (i : Int)) hP2 hQ2 (by decide) hc2 hv2 (by omega) (by omega)
 rw [binds_law hok (l := fun j => l j + r j) (fun _ _ => rfl) (by omega) (by omega) (by omega) (by omega) (by unfold placeN; omega), if_pos rfl] at e7
 have e8 := plus_e kq Q (l 0) (r 0) hOQ (hl 0) (hr 0)
 have e9 := fun ad c1 => opens_e k kx kq P Q 4 (some ad) m c1 (comN P 4 fun j => l j + r j) ((l 0 + r 0) % Q) hP2 (by decide) hc2 (by omega) hOQ.mod_lt
 have hop : (decide (0 < m) && decide ((l 0 + r 0) % Q < Q) && decide (4 ^ ((l 0 + r 0) % Q) % P = comN P 4 (fun j => l j + r j) 0)) = true := by
  rw [decide_eq_true (show 0 < m by omega), decide_eq_true (Nat.mod_lt _ (by omega)), decide_eq_true]
  ·rfl
  ·exact pow_modQ hOP.gt hg1
 rw [hop] at e9
 have e10 := gQ_e k kx kq P Q 4
 have hw2 : (l 0 + r 0) % Q < 2 ^ 256 := hOQ.mod_lt
 have hl0 := hl 0
 have hr0 := hr 0
 have hvl : valN Q l m (i : Int) < 2 ^ 256 := hrn_lt hOQ _ _ _ _
 have hvr : valN Q r m (i : Int) < 2 ^ 256 := hrn_lt hOQ _ _ _ _
 obtain ⟨u, hu⟩ : ∃ u, (l 0 + r 0) % Q = u := ⟨_, rfl⟩
 obtain ⟨v, hv⟩ : ∃ v, valN Q (fun j => l j + r j) m (i : Int) = v := ⟨_, rfl⟩
 obtain ⟨v1, hv1⟩ : ∃ v, valN Q l m (i : Int) = v := ⟨_, rfl⟩
 obtain ⟨v2, hv2'⟩ : ∃ v, valN Q r m (i : Int) = v := ⟨_, rfl⟩
 obtain ⟨h, hh⟩ : ∃ h, comN P 4 (fun j => l j + r j) = h := ⟨_, rfl⟩
 obtain ⟨f, hf⟩ : ∃ f, comN P 4 l = f := ⟨_, rfl⟩
 obtain ⟨g, hg⟩ : ∃ g, comN P 4 r = g := ⟨_, rfl⟩
 have hf2 : ∀ j, f j < 2 ^ 256 := fun j => by rw [← hf]; exact hOP.mod_lt
 have hg2 : ∀ j, g j < 2 ^ 256 := fun j => by rw [← hg]; exact hOP.mod_lt
 rw [hu] at e8 e9 hw2
 rw [hv1, hv2', hv] at e6
 rw [hv1] at e4 hvl
 rw [hv2'] at e5 hvr
 rw [hv] at e7 hv2
 rw [hh] at e7 e9 hc2
 simp only [hh, hf, hg] at e3
 rw [hf] at e1
 rw [hg] at e2
 clear hu hv hv1 hv2' hh hf hg hop hok hl hr hg1 hN0 hQ10 hax hay
 (repeat' ((first | with_reducible (first | apply XR_append | apply XR_cons | apply XR_consG | apply XR_nil | apply XM_cons | apply XM_consG | apply XM_nil | apply cF_pure3 (by assumption) | apply cM_pure3 (by assumption) | apply cF_ev3 (by assumption) | apply cM_ev3 (by assumption) | apply cF_ev3 (plus_e _ _ _ _ bd3 bd3 bd3) | apply cM_ev3 (plus_e _ _ _ _ bd3 bd3 bd3)) | with_reducible (first | apply gRS (by with_unfolding_all rfl) | apply gR (by with_unfolding_all rfl) | apply gS (by with_unfolding_all rfl) | fail) | refine X_of _ ?_ | with_reducible (first | exact ⟨_, rfl⟩ | refine And.intro ?_ ?_ | intro _)) <;> try simp -implicitDefEqProofs (maxSteps := 1000000) (disch := first | exact dz3 | fail) only [vcR, vcT, simprocAttr, Ab.part, implies_true, forall_const, true_or, Option.isNone_some, Option.isNone_none, vcXHb, Tryd.f12, List.toList_toArray, arr4_zero, nat4_set1, nat4_setL, nat4_set0, hk,h1,h2,h4,h5,bne_self_eq_false]))
 refine xcall_evn (by kernel_rfl) (fun β w' hR => ⟨_, e1, hG w' hR.fr.to, hNx w' hR.fr.to⟩) ?_
 rintro _ _ ⟨c1, sp1, hc1, rfl, rfl⟩
 rw [rowS_s hm0, rowH_s hm0]
 try simp -implicitDefEqProofs (maxSteps := 1000000) (disch := first | exact dz3 | fail) only [vcR, vcT, simprocAttr, Ab.part, implies_true, forall_const, true_or, Option.isNone_some, Option.isNone_none, vcXHb, Tryd.f12, List.toList_toArray]
 (repeat' ((first | with_reducible (first | apply XR_append | apply XR_cons | apply XR_consG | apply XR_nil | apply XM_cons | apply XM_consG | apply XM_nil | apply cF_pure3 (by assumption) | apply cM_pure3 (by assumption) | apply cF_ev3 (by assumption) | apply cM_ev3 (by assumption) | apply cF_ev3 (plus_e _ _ _ _ bd3 bd3 bd3) | apply cM_ev3 (plus_e _ _ _ _ bd3 bd3 bd3)) | with_reducible (first | apply gRS (by with_unfolding_all rfl) | apply gR (by with_unfolding_all rfl) | apply gS (by with_unfolding_all rfl) | fail) | refine X_of _ ?_ | with_reducible (first | exact ⟨_, rfl⟩ | refine And.intro ?_ ?_ | intro _)) <;> try simp -implicitDefEqProofs (maxSteps := 1000000) (disch := first | exact dz3 | fail) only [vcR, vcT, simprocAttr, Ab.part, implies_true, forall_const, true_or, Option.isNone_some, Option.isNone_none, vcXHb, Tryd.f12, List.toList_toArray, arr4_zero, nat4_set1, nat4_setL, nat4_set0]))
 refine xcall_evn (by kernel_rfl) (fun β w' hR => ⟨_, e2, hG w' hR.fr.to, hNy w' hR.fr.to⟩) ?_
 rintro _ _ ⟨c3, sp3, hc3, rfl, rfl⟩
 rw [rowS_s hm0, rowH_s hm0]
 try simp -implicitDefEqProofs (maxSteps := 1000000) (disch := first | exact dz3 | fail) only [vcR, vcT, simprocAttr, Ab.part, implies_true, forall_const, true_or, Option.isNone_some, Option.isNone_none, vcXHb, Tryd.f12, List.toList_toArray]
 refine X_rebase (modEvo 108) w.heap.size [] (by decide) (by simp) rfl (.inl ⟨rfl, rfl⟩) (fun _ h => h) (by simp) fun β2 w2 hR2 => ?_
 have hG2 : Kn (cx w w1 w2 β1 β2) (GK k kx kq P Q 4) := hG.after (L := []) hR2 (by simp)
 have hO2 : Kn (cx w w1 w2 β1 β2) oneK := hO.after (L := []) hR2 (by simp)
 have hX2 : Kn (cx w w1 w2 β1 β2) (natsAt (modEvo 108) (some ax) m l) := hNx.after (L := []) hR2 (by simp)
 have hY2 : Kn (cx w w1 w2 β1 β2) (natsAt (modEvo 108) (some ay) m r) := hNy.after (L := []) hR2 (by simp)
 have hC : Kn (cx w w1 w2 β1 β2) (natsAt (modEvo 108) (some ⟨β2 0, 0, none⟩) m f) := natsAt_gone (T0 := 108) (B := w.heap.size) (L := []) (j := 0) (sp := sp1.map SV.v) hR2 rfl (by simp) (by simp) (by decide)
 have hD : Kn (cx w w1 w2 β1 β2) (natsAt (modEvo 108) (some ⟨β2 1, 0, none⟩) m g) := natsAt_gone (T0 := 108) (B := w.heap.size) (L := []) (j := 1) (sp := sp3.map SV.v) hR2 rfl (by simp) (by simp) (by decide)
 clear hR2 hG hO hNx hNy e1 e2 hc1 hc3
 simp -implicitDefEqProofs (maxSteps := 1000000) (disch := first | exact dz3 | fail) only [vcR, vcT, simprocAttr, Ab.part, implies_true, forall_const, true_or, Option.isNone_some, Option.isNone_none, vcXHb, Tryd.f12, List.toList_toArray]
 obtain ⟨jc, hjc⟩ : ∃ j, β2 0 = j := ⟨_, rfl⟩
 obtain ⟨jd, hjd⟩ : ∃ j, β2 1 = j := ⟨_, rfl⟩
 rw [hjc] at hC
 rw [hjd] at hD
 have hszz : sz (cx w w1 w2 β1 β2).P 24 = 4 := gsz_nat
 (repeat' ((first | with_reducible (first | apply XR_append | apply XR_cons | apply XR_consG | apply XR_nil | apply XM_cons | apply XM_consG | apply XM_nil | apply cF_pure3 (by assumption) | apply cM_pure3 (by assumption) | apply cF_ev3 (by assumption) | apply cM_ev3 (by assumption) | apply cF_ev3 (plus_e _ _ _ _ bd3 bd3 bd3) | apply cM_ev3 (plus_e _ _ _ _ bd3 bd3 bd3)) | with_reducible (first | apply gRS (by with_unfolding_all rfl) | apply gR (by with_unfolding_all rfl) | apply gS (by with_unfolding_all rfl) | fail) | refine X_of _ ?_ | with_reducible (first | exact ⟨_, rfl⟩ | refine And.intro ?_ ?_ | intro _)) <;> try simp -implicitDefEqProofs (maxSteps := 1000000) (disch := first | exact dz3 | fail) only [vcR, vcT, simprocAttr, Ab.part, implies_true, forall_const, true_or, Option.isNone_some, Option.isNone_none, vcXHb, Tryd.f12, List.toList_toArray, arr4_zero, nat4_set1, nat4_setL, nat4_set0, hjc,hjd,bne_self_eq_false]))
 refine X_loopT (ι := Nat × Nat × List Value) (fun k => k.1 ≤ m ∧ (k.1 ≠ 0 → k.1 ≤ k.2.1 ∧ k.2.2.length = (k.2.1 - k.1) * 4)) (fun k => m - k.1) [13, 14, 15, 16, 67, 68, 69, 70, 71, 72, 73, 74, 75, 76, 77, 78, 79, 80, 81, 82, 83, 84, 85, 86, 87, 88, 89, 90, 91]
  (fun k => [(13, rowS 0 k.1 k.2.1), (14, .s (.v (.int .i64 (k.1 : Nat))))])
  (fun k => rowH 24 k.1 (nats k.1 h) k.2.2) (0, 0, []) ?_ (by decide) ?_ ?_
 ·rintro ⟨q, c', sp⟩ ⟨hi, _⟩
  refine ⟨by simp, ?_, by simp, ?_⟩
  ·simp only [List.forall_mem_cons]
   refine ⟨rowS_ok fun h0 => ?_, trivial, fun x hx => by simp at hx⟩
   rw [rowH_s h0]; exact Nat.zero_lt_one
  ·exact row_okG (nats_ok _)
 ·refine ⟨⟨Nat.zero_le _, fun h => absurd rfl h⟩, [], ⟨by decide, rfl⟩, ?_, ?_⟩
  ·simp -implicitDefEqProofs (maxSteps := 1000000) (disch := first | exact dz3 | fail) only [vcR, vcT, simprocAttr, Ab.part, implies_true, forall_const, true_or, Option.isNone_some, Option.isNone_none, vcXHb, Tryd.f12, List.toList_toArray, renS_cons,renS_nil,ren_v,rowS_0]
   try simp
  ·first | trivial | exact ⟨⟩ | rfl
 ·rintro ⟨q, c', sp⟩ us ⟨hi, hrow⟩
  simp only at hi hrow ⊢
  by_cases hin : q < m
  ·have hx1 : ∀ {K : TV → HE → Prop}, xext (cx w w1 w2 β1 β2) (some true) 4 ((⟨jc, 0, none⟩ : Addr).add (q * 4)) K = K (.agg (nat4 (f q))) .none := fun {K} => hC.nat hin
   have hx2 : ∀ {K : TV → HE → Prop}, xext (cx w w1 w2 β1 β2) (some true) 4 ((⟨jd, 0, none⟩ : Addr).add (q * 4)) K = K (.agg (nat4 (g q))) .none := fun {K} => hD.nat hin
   have e3 := e3 q
   have hq2 := hc2 q
   have hfq := hf2 q
   have hgq := hg2 q
   clear e4 e5 e6 e7 e8 e9 e10 hf2 hg2 hc2
   by_cases h0 : q = 0
   ·subst h0
    rw [rowH_0]
    (repeat' ((first | with_reducible (first | apply XR_append | apply XR_cons | apply XR_consG | apply XR_nil | apply XM_cons | apply XM_consG | apply XM_nil | apply cF_pure3 (by assumption) | apply cM_pure3 (by assumption) | apply cF_ev3 (by assumption) | apply cM_ev3 (by assumption) | apply cF_ev3 (plus_e _ _ _ _ bd3 bd3 bd3) | apply cM_ev3 (plus_e _ _ _ _ bd3 bd3 bd3)) | with_reducible (first | apply gRS (by with_unfolding_all rfl) | apply gR (by with_unfolding_all rfl) | apply gS (by with_unfolding_all rfl) | apply gSB (by with_unfolding_all rfl) | apply gB (by with_unfolding_all rfl) | fail) | (with_reducible apply X_drawM (id := 15) 13 [] (.cons 13 (.cons 14 (.cons 15 .nil .nil) .nil) .nil); (next => (kernel_rfl)); (next => (kernel_rfl))) | refine X_of _ ?_ | with_reducible (first | exact ⟨_, rfl⟩ | refine And.intro ?_ ?_ | intro _)) <;> try simp -implicitDefEqProofs (maxSteps := 1000000) (disch := first | exact dz3 | fail) only [vcR, vcT, simprocAttr, Ab.part, implies_true, forall_const, true_or, Option.isNone_some, Option.isNone_none, vcXHb, Tryd.f12, List.toList_toArray, arr4_zero, nat4_set1, nat4_setL, nat4_set0, hx1,hx2,st_bs,xbs_some,ghz1,gone_set]))
    refine xappend_row (cs := nats 0 h) (sp := sp) (gnews_nat hszz rfl) (fun h => absurd rfl h) (by rw [nats_length, hszz]) (by rw [nat4_length, hszz]) (gap_nat _ (by omega)) (by rw [nat4_one]; trivial) (by show ¬ (24 = 108); decide) fun j' c'' sp' H' h1 h2 h3 h4 h5 h6 => ?_
    clear h4 h5 h6 hx1 hx2
    (repeat' ((first | with_reducible (first | apply XR_append | apply XR_cons | apply XR_consG | apply XR_nil | apply XM_cons | apply XM_consG | apply XM_nil | apply cF_pure3 (by assumption) | apply cM_pure3 (by assumption) | apply cF_ev3 (by assumption) | apply cM_ev3 (by assumption) | apply cF_ev3 (plus_e _ _ _ _ bd3 bd3 bd3) | apply cM_ev3 (plus_e _ _ _ _ bd3 bd3 bd3)) | with_reducible (first | apply gRS (by with_unfolding_all rfl) | apply gR (by with_unfolding_all rfl) | apply gS (by with_unfolding_all rfl) | apply gSB (by with_unfolding_all rfl) | apply gB (by with_unfolding_all rfl) | fail) | refine X_of _ ?_ | with_reducible (first | exact ⟨_, rfl⟩ | refine And.intro ?_ ?_ | intro _)) <;> try simp -implicitDefEqProofs (maxSteps := 1000000) (disch := first | exact dz3 | fail) only [vcR, vcT, simprocAttr, Ab.part, implies_true, forall_const, true_or, Option.isNone_some, Option.isNone_none, vcXHb, Tryd.f12, List.toList_toArray, arr4_zero, nat4_set1, nat4_setL, nat4_set0]))
    refine ⟨(0 + 1, c'', sp'), by simp; omega, ⟨⟨by simp; omega, fun _ => ⟨h1, by rw [hszz] at h2; exact h2⟩⟩, [j'], ⟨by simp, rfl⟩, ?_, ⟨?_, trivial⟩⟩⟩
    ·have e1 : (rowS 0 (0 + 1) c'').ren (lk [j']) = .s (.sl j' 0 (0 + 1) c'') := by rw [ren_rowS, rowS_s (by omega)]; rfl
     simp -implicitDefEqProofs (maxSteps := 1000000) (disch := first | exact dz3 | fail) only [vcR, vcT, simprocAttr, Ab.part, implies_true, forall_const, true_or, Option.isNone_some, Option.isNone_none, vcXHb, Tryd.f12, List.toList_toArray, renS_cons,renS_nil,ren_v,e1]
     try omega
    ·rw [h3]
     exact congrArg (fun x => some (AB.mk _ (x ++ _))) (nats_snoc (l := h))
   ·obtain ⟨hkc, hsp⟩ := hrow h0
    rw [rowH_s h0]
    (repeat' ((first | with_reducible (first | apply XR_append | apply XR_cons | apply XR_consG | apply XR_nil | apply XM_cons | apply XM_consG | apply XM_nil | apply cF_pure3 (by assumption) | apply cM_pure3 (by assumption) | apply cF_ev3 (by assumption) | apply cM_ev3 (by assumption) | apply cF_ev3 (plus_e _ _ _ _ bd3 bd3 bd3) | apply cM_ev3 (plus_e _ _ _ _ bd3 bd3 bd3)) | with_reducible (first | apply gRS (by with_unfolding_all rfl) | apply gR (by with_unfolding_all rfl) | apply gS (by with_unfolding_all rfl) | apply gSB (by with_unfolding_all rfl) | apply gB (by with_unfolding_all rfl) | fail) | (with_reducible apply X_drawM (id := 15) 13 [] (.cons 13 (.cons 14 (.cons 15 .nil .nil) .nil) .nil); (next => (kernel_rfl)); (next => (kernel_rfl))) | refine X_of _ ?_ | with_reducible (first | exact ⟨_, rfl⟩ | refine And.intro ?_ ?_ | intro _)) <;> try simp -implicitDefEqProofs (maxSteps := 1000000) (disch := first | exact dz3 | fail) only [vcR, vcT, simprocAttr, Ab.part, implies_true, forall_const, true_or, Option.isNone_some, Option.isNone_none, vcXHb, Tryd.f12, List.toList_toArray, arr4_zero, nat4_set1, nat4_setL, nat4_set0, hx1,hx2,st_bs,xbs_some,ghz1,gone_set]))
    refine xappend_row (cs := nats q h) (sp := sp) (gnews_nat hszz rfl) (fun _ => ⟨rfl, hkc, by rw [hszz]; exact hsp⟩) (by rw [nats_length, hszz] <;> omega) (by rw [nat4_length, hszz]) (gap_nat _ (by omega)) (by rw [nat4_one]; trivial) (by show ¬ (24 = 108); decide) fun j' c'' sp' H' h1 h2 h3 h4 h5 h6 => ?_
    clear h4 h5 h6 hx1 hx2
    (repeat' ((first | with_reducible (first | apply XR_append | apply XR_cons | apply XR_consG | apply XR_nil | apply XM_cons | apply XM_consG | apply XM_nil | apply cF_pure3 (by assumption) | apply cM_pure3 (by assumption) | apply cF_ev3 (by assumption) | apply cM_ev3 (by assumption) | apply cF_ev3 (plus_e _ _ _ _ bd3 bd3 bd3) | apply cM_ev3 (plus_e _ _ _ _ bd3 bd3 bd3)) | with_reducible (first | apply gRS (by with_unfolding_all rfl) | apply gR (by with_unfolding_all rfl) | apply gS (by with_unfolding_all rfl) | apply gSB (by with_unfolding_all rfl) | apply gB (by with_unfolding_all rfl) | fail) | refine X_of _ ?_ | with_reducible (first | exact ⟨_, rfl⟩ | refine And.intro ?_ ?_ | intro _)) <;> try simp -implicitDefEqProofs (maxSteps := 1000000) (disch := first | exact dz3 | fail) only [vcR, vcT, simprocAttr, Ab.part, implies_true, forall_const, true_or, Option.isNone_some, Option.isNone_none, vcXHb, Tryd.f12, List.toList_toArray, arr4_zero, nat4_set1, nat4_setL, nat4_set0]))
    refine ⟨(q + 1, c'', sp'), by simp; omega, ⟨⟨by simp; omega, fun _ => ⟨h1, by rw [hszz] at h2; exact h2⟩⟩, [j'], ⟨by simp, rfl⟩, ?_, ⟨?_, trivial⟩⟩⟩
    ·have e1 : (rowS 0 (q + 1) c'').ren (lk [j']) = .s (.sl j' 0 (q + 1) c'') := by rw [ren_rowS, rowS_s (by omega)]; rfl
     simp -implicitDefEqProofs (maxSteps := 1000000) (disch := first | exact dz3 | fail) only [vcR, vcT, simprocAttr, Ab.part, implies_true, forall_const, true_or, Option.isNone_some, Option.isNone_none, vcXHb, Tryd.f12, List.toList_toArray, renS_cons,renS_nil,ren_v,e1]
     try omega
    ·rw [h3]
     exact congrArg (fun x => some (AB.mk _ (x ++ _))) (nats_snoc (l := h))
  ·have : q = m := by omega
   subst this
   clear hin hi
   rw [rowH_s hm0]
   have hx1 : ∀ {K : TV → HE → Prop}, xext (cx w w1 w2 β1 β2) (some true) 4 (ax.add 0) K = K (.agg (nat4 (l 0))) .none := fun {K} => hX2.nat (i := 0) (by omega)
   have hx2 : ∀ {K : TV → HE → Prop}, xext (cx w w1 w2 β1 β2) (some true) 4 (ay.add 0) K = K (.agg (nat4 (r 0))) .none := fun {K} => hY2.nat (i := 0) (by omega)
   have hMQ : Kn (cx w w1 w2 β1 β2) (isMod 108 kq Q) := hG2.gmq
   (repeat' ((first | with_reducible (first | apply XR_append | apply XR_cons | apply XR_consG | apply XR_nil | apply XM_cons | apply XM_consG | apply XM_nil | apply cF_pure3 (by assumption) | apply cM_pure3 (by assumption) | apply cF_ev3 (by assumption) | apply cM_ev3 (by assumption) | apply cF_ev3 (plus_e _ _ _ _ bd3 bd3 bd3) | apply cM_ev3 (plus_e _ _ _ _ bd3 bd3 bd3)) | with_reducible (first | apply gRS (by with_unfolding_all rfl) | apply gR (by with_unfolding_all rfl) | apply gS (by with_unfolding_all rfl) | fail) | refine X_of _ ?_ | with_reducible (first | exact ⟨_, rfl⟩ | refine And.intro ?_ ?_ | intro _)) <;> try simp -implicitDefEqProofs (maxSteps := 1000000) (disch := first | exact dz3 | fail) only [vcR, vcT, simprocAttr, Ab.part, implies_true, forall_const, true_or, Option.isNone_some, Option.isNone_none, vcXHb, Tryd.f12, List.toList_toArray, arr4_zero, nat4_set1, nat4_setL, nat4_set0, rowS_s hm0,piece_b0,piece_l0,pieceC_length,pieceC_okk,pieceC_one]))
   refine yF_evz (fun β' w' hR => ⟨_, e7 ⟨β' 0, 0, none⟩ c', ⟨hG2 w' hR.fr.to, hO2 w' hR.fr.to⟩, natsAt_own hR rfl (by decide)⟩) rfl rfl (by kernel_rfl) ?_
   try simp -implicitDefEqProofs (maxSteps := 1000000) (disch := first | exact dz3 | fail) only [vcR, vcT, simprocAttr, Ab.part, implies_true, forall_const, true_or, Option.isNone_some, Option.isNone_none, vcXHb, Tryd.f12, List.toList_toArray]
   (repeat' ((first | with_reducible (first | apply XQ_cons | apply XQ_consG | apply XQ_nil | apply XR_append | apply XR_cons | apply XR_consG | apply XR_nil | apply XM_cons | apply XM_consG | apply XM_nil | apply cF_pure3 (by assumption) | apply cV_pure3 (by assumption) | apply cM_pure3 (by assumption) | apply cF_ev3 (by assumption) | apply cV_ev3 (by assumption) | apply cM_ev3 (by assumption) | apply cF_ev3 (plus_e _ _ _ _ bd3 bd3 bd3) | apply cV_ev3 (plus_e _ _ _ _ bd3 bd3 bd3) | apply cM_ev3 (plus_e _ _ _ _ bd3 bd3 bd3)) | with_reducible (first | apply gRS (by with_unfolding_all rfl) | apply gR (by with_unfolding_all rfl) | apply gS (by with_unfolding_all rfl) | fail) | (with_reducible apply X_drawC (id := 21) 13; (next => (kernel_rfl)); (next => (kernel_rfl))) | refine X_of _ ?_ | with_reducible (first | exact ⟨_, rfl⟩ | refine And.intro ?_ ?_ | intro _)) <;> try simp -implicitDefEqProofs (maxSteps := 1000000) (disch := first | exact dz3 | fail) only [vcR, vcT, simprocAttr, Ab.part, implies_true, forall_const, true_or, Option.isNone_some, Option.isNone_none, vcXHb, Tryd.f12, List.toList_toArray, arr4_zero, nat4_set1, nat4_setL, nat4_set0, hx1,hx2]))
   refine yV_evz (fun β' w' hR => ⟨_, e9 ⟨β' 0, 0, none⟩ c', hG2 w' hR.fr.to, natsAt_own hR rfl (by decide)⟩) rfl rfl (by kernel_rfl) ?_
   try simp -implicitDefEqProofs (maxSteps := 1000000) (disch := first | exact dz3 | fail) only [vcR, vcT, simprocAttr, Ab.part, implies_true, forall_const, true_or, Option.isNone_some, Option.isNone_none, vcXHb, Tryd.f12, List.toList_toArray]
   (repeat' ((first | with_reducible (first | apply XQ_cons | apply XQ_consG | apply XQ_nil | apply XR_append | apply XR_cons | apply XR_consG | apply XR_nil | apply XM_cons | apply XM_consG | apply XM_nil | apply cF_pure3 (by assumption) | apply cV_pure3 (by assumption) | apply cM_pure3 (by assumption) | apply cF_ev3 (by assumption) | apply cV_ev3 (by assumption) | apply cM_ev3 (by assumption) | apply cF_ev3 (plus_e _ _ _ _ bd3 bd3 bd3) | apply cV_ev3 (plus_e _ _ _ _ bd3 bd3 bd3) | apply cM_ev3 (plus_e _ _ _ _ bd3 bd3 bd3)) | with_reducible (first | apply gRS (by with_unfolding_all rfl) | apply gR (by with_unfolding_all rfl) | apply gS (by with_unfolding_all rfl) | fail) | refine X_of _ ?_ | with_reducible (first | exact ⟨_, rfl⟩ | refine And.intro ?_ ?_ | intro _)) <;> try simp -implicitDefEqProofs (maxSteps := 1000000) (disch := first | exact dz3 | fail) only [vcR, vcT, simprocAttr, Ab.part, implies_true, forall_const, true_or, Option.isNone_some, Option.isNone_none, vcXHb, Tryd.f12, List.toList_toArray, arr4_zero, nat4_set1, nat4_setL, nat4_set0, hx1,hx2]))
end Go.Proofs.YtdmcknmjdlghgaaDoor
