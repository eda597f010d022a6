/-
  ShareBinds: a share is right just if it is the polynomial's value.
-/
import Derived.Test.YtdmcknmjdlghgaaDoorT01
import Derived.Test.YtdmcknmjdlghgaaDoorT02
import Derived.Test.YtdmcknmjdlghgaaDoorT03
import Derived.Test.YtdmcknmjdlghgaaDoorT05
import Derived.Test.YtdmcknmjdlghgaaDoorT06
import Derived.Test.YtdmcknmjdlghgaaDoorT07
import Derived.Test.YtdmcknmjdlghgaaDoorT10
import Derived.Test.YtdmcknmjdlghgaaDoorT12
import Derived.Test.YtdmcknmjdlghgaaDoorT14
import Derived.Test.YtdmcknmjdlghgaaDoorT15
import Derived.Test.YtdmcknmjdlghgaaDoorT17
namespace Go.Proofs.YtdmcknmjdlghgaaDoor
open Go Go.Ab
set_option linter.unusedSimpArgs false
set_option linter.unusedVariables false
set_option linter.defProp false
set_option maxHeartbeats 20000000
set_option maxRecDepth 100000
theorem fz_piece {L : List Nat} {β : Nat → Nat} {s : Int} {a : Nat} : List.map (SV.fz L β) (pieceC s a) = pieceC s a := by kernel_rfl
theorem shareBinds_m (z : Int) (hz : IntKind.i64.min ≤ z ∧ z ≤ IntKind.i64.max) (x : Option Addr) (n c : Nat) (l : Nat → Nat) (hl : ∀ i, l i < 2 ^ 256) (hn : n < 9223372036854775808) (hnc : n ≤ c) (s : Int) (a : Nat) (hs : -9223372036854775808 ≤ s ∧ s < 9223372036854775808) (ha : a < 2 ^ 256) :
    PureM Tryd.prog 9 [.s (.v (.int .i64 z)), .s (.v (.slice x n c)), .agg (pieceC s a)] (fun w => natsAt (modEvo 108) x n l w.heap.size w ∧ gv w) (.s (.v (.bool true))) := by
  clear hz hnc
  have hsm0 := small_g z
  have hsm := lsmall_g z
  have hok := sm_ok z
  obtain ⟨P, hP⟩ : ∃ P, smP z = P := ⟨_, rfl⟩
  obtain ⟨Q, hQ⟩ : ∃ Q, smQ z = Q := ⟨_, rfl⟩
  rw [hP, hQ] at hsm hok hsm0
  clear hP hQ
  have haw := shawake_m.ev (V := Evo.none)
  have hargs : ∀ y ∈ [TV.s (.v (.int .i64 z)), .s (.v (.slice x n c)), .agg (pieceC s a)], y.ok 0 := by
    intro y hy
    simp only [List.mem_cons, List.not_mem_nil, or_false] at hy
    rcases hy with rfl | rfl | rfl
    · trivial
    · trivial
    · exact fun y hy => (pieceC_okk (m := 0)).mpr trivial y hy
  refine pureM_of Tryd.func9 rfl hargs (by simp only [List.length_cons, List.length_nil, List.map_cons, List.map_nil, List.nodup_cons, List.nodup_nil, List.mem_cons, Nat.reduceAdd, Nat.reduceEqDiff, or_false, not_false_eq_true, forall_eq_or_imp, forall_eq, or_self, Nat.reduceLT, Nat.reduceLeDiff, and_self, List.forall_mem_cons, List.not_mem_nil, false_implies, implies_true, and_true, true_and, vcOHb]) fun w hpre => ?_
  simp only [List.length_cons, List.length_nil, Tryd.ntmps9, Nat.reduceAdd, Nat.reduceSub, List.replicate_succ, List.replicate_zero, List.cons_append, List.nil_append]
  have hgv := gv_kn (P0 := Tryd.prog) hpre.2
  (repeat' ((first | with_reducible (first | apply XR_cons | apply XR_consG | apply XR_nil | apply cF_pure3 (by assumption) | apply cF_ev3 (by assumption)) | with_reducible (first | apply gRS (by with_unfolding_all rfl) | apply gR (by with_unfolding_all rfl) | apply gS (by with_unfolding_all rfl) | fail) | refine X_of _ ?_ | with_reducible (first | exact ⟨_, rfl⟩ | refine And.intro ?_ ?_ | intro _)) <;> try simp -implicitDefEqProofs (maxSteps := 1000000) (disch := first | exact dz3 | fail) only [vcR, vcT, simprocAttr, Ab.part, implies_true, forall_const, true_or, Option.isNone_some, Option.isNone_none, vcXHb, Tryd.f9, List.toList_toArray, arr4_zero, nat4_set1, nat4_setL, nat4_set0, pieceC_length,pieceC_okk,pieceC_one]))
  refine yF_small (h0 := 1) hsm0 rfl (fun _ h => h) rfl ?_
  intro n0 A H1 hn1 hn5 hLi hd hA hN0
  obtain ⟨N, hN⟩ : ∃ N, A.length = N := ⟨_, rfl⟩
  rw [hN] at hN0
  have hk0 : ∀ {B : Heap}, (A ++ B)[0]? = some ⟨64, pieceC s a⟩ := by obtain ⟨X, rfl⟩ := hA; intro B; rfl
  have q0 : ∀ {B : Heap}, (A ++ B)[N]? = B[0]? := fun {B} => end0 hN
  have qs : ∀ {B : Heap} {t : Nat} {cs cs' : List SV}, putH (A ++ ⟨t, cs⟩ :: B) N cs' = A ++ ⟨t, cs'⟩ :: B := fun {B t cs cs'} => end_put hN
  clear hA hLi hd hn1 hn5
  try simp -implicitDefEqProofs (maxSteps := 1000000) (disch := first | exact dz3 | fail) only [vcR, vcT, simprocAttr, Ab.part, implies_true, forall_const, true_or, Option.isNone_some, Option.isNone_none, vcXHb, Tryd.f9, List.toList_toArray, hN,q0,qs,hk0]
  (repeat' ((first | with_reducible (first | apply XR_cons | apply XR_consG | apply XR_nil | apply cF_pure3 (by assumption) | apply cF_ev3 (by assumption)) | with_reducible (first | apply gRS (by with_unfolding_all rfl) | apply gR (by with_unfolding_all rfl) | apply gS (by with_unfolding_all rfl) | fail) | refine X_of _ ?_ | with_reducible (first | exact ⟨_, rfl⟩ | refine And.intro ?_ ?_ | intro _)) <;> try simp -implicitDefEqProofs (maxSteps := 1000000) (disch := first | exact dz3 | fail) only [vcR, vcT, simprocAttr, Ab.part, implies_true, forall_const, true_or, Option.isNone_some, Option.isNone_none, vcXHb, Tryd.f9, List.toList_toArray, arr4_zero, nat4_set1, nat4_setL, nat4_set0, hN,q0,qs,hk0]))
  refine yF_lsmall (N := N + 1) hsm hgv rfl (fun _ h => h) (by rw [end_len hN]; rfl) ?_
  intro bx bq
  simp only [List.append_assoc, List.cons_append, List.nil_append]
  (try (first | with_reducible refine X_regRS ?_ | with_reducible refine X_regR ?_ | (with_reducible refine X_seqX ?_; with_reducible refine X_blockX ?_; with_reducible refine X_regR ?_))); (repeat ((first | with_reducible refine XR_make ?_ | with_reducible refine XR_append ?_ | with_reducible refine XR_cons ?_ | with_reducible refine XR_consG ?_ | with_reducible refine XR_nil ?_); try simp -implicitDefEqProofs (maxSteps := 1000000) (disch := first | exact dz3 | fail) only [vcR, vcT, simprocAttr, Ab.part, implies_true, forall_const, true_or, Option.isNone_some, Option.isNone_none, vcXHb, Tryd.f9, List.toList_toArray, hN,q0,qs,hk0]))
  simp only [show N + 1 + 1 = N + 2 from rfl, show N + 1 + 2 = N + 3 from rfl]
  refine X_grp (N + 1) (N + 2) (N + 3) [0, N] ((endk hN (k := 1)).trans rfl) ((endk hN (k := 2)).trans rfl) ((endk hN (k := 3)).trans rfl) hok.gr.1 hok.gr.2.1 (by decide) (by simp; try omega) (by simp; try omega) (fun i hi => by rw [end_len hN]; simp at hi ⊢; omega) (by simp only [pickH_cons, pickH_nil, consH_some, List.getElem?_cons_zero, hN, q0, qs, hk0]; simp) fun β1 w1 hR1 hG hK => ?_
  have hz0 : ¬ N = 0 := by omega
  have hy0 : ¬ 0 = N := by omega
  have hy1 : ¬ 1 = N := by omega
  have hMN : ¬ N + 1 = N := by omega
  have hO := gv_one hpre.2 hR1 (L := [0, N]) (fun i hi => by rw [end_len hN]; simp at hi ⊢; omega)
  have hNx := hK _ (natsAt_stays _ x n l) hpre.1
  clear hR1 hK hgv hpre haw hsm hsm0
  simp -implicitDefEqProofs (maxSteps := 1000000) (disch := first | exact dz3 | fail) only [vcR, vcT, simprocAttr, Ab.part, implies_true, forall_const, true_or, Option.isNone_some, Option.isNone_none, vcXHb, Tryd.f9, List.toList_toArray, hN,q0,qs,hk0,hz0,hy0,hy1,hMN,fz_piece]
  obtain ⟨k, hk⟩ : ∃ k, β1 (N + 1) = k := ⟨_, rfl⟩
  obtain ⟨kx, hkx⟩ : ∃ k, β1 (N + 2) = k := ⟨_, rfl⟩
  obtain ⟨kq, hkq⟩ : ∃ k, β1 (N + 3) = k := ⟨_, rfl⟩
  rw [hk, hkx, hkq] at hG
  have hOQ := hok.gr.2.1
  have hP2 := hok.gr.1.lt
  have hQ2 := hOQ.lt
  clear hN0 hN q0 qs hk0 hz0 hy0 hy1 hMN
  try simp -implicitDefEqProofs (maxSteps := 1000000) (disch := first | exact dz3 | fail) only [vcR, vcT, simprocAttr, Ab.part, implies_true, forall_const, true_or, Option.isNone_some, Option.isNone_none, vcXHb, Tryd.f9, List.toList_toArray, hk,hkx,hkq]
  clear hkx hkq
  have hq : wd Q 0 = Q := by rw [wd_small Q hok.lt]
  by_cases h1 : (n : Int) < 1
  · (repeat' ((first | with_reducible (first | apply XR_cons | apply XR_consG | apply XR_nil | apply cF_pure3 (by assumption) | apply cF_ev3 (by assumption)) | with_reducible (first | apply gRS (by with_unfolding_all rfl) | apply gR (by with_unfolding_all rfl) | apply gS (by with_unfolding_all rfl) | fail) | refine X_of _ ?_ | with_reducible (first | exact ⟨_, rfl⟩ | refine And.intro ?_ ?_ | intro _)) <;> try simp -implicitDefEqProofs (maxSteps := 1000000) (disch := first | exact dz3 | fail) only [vcR, vcT, simprocAttr, Ab.part, implies_true, forall_const, true_or, Option.isNone_some, Option.isNone_none, vcXHb, Tryd.f9, List.toList_toArray, arr4_zero, nat4_set1, nat4_setL, nat4_set0, hk,h1,pieceC_length,piece_0]))
  by_cases h2 : (n : Int) > 20
  · (repeat' ((first | with_reducible (first | apply XR_cons | apply XR_consG | apply XR_nil | apply cF_pure3 (by assumption) | apply cF_ev3 (by assumption)) | with_reducible (first | apply gRS (by with_unfolding_all rfl) | apply gR (by with_unfolding_all rfl) | apply gS (by with_unfolding_all rfl) | fail) | refine X_of _ ?_ | with_reducible (first | exact ⟨_, rfl⟩ | refine And.intro ?_ ?_ | intro _)) <;> try simp -implicitDefEqProofs (maxSteps := 1000000) (disch := first | exact dz3 | fail) only [vcR, vcT, simprocAttr, Ab.part, implies_true, forall_const, true_or, Option.isNone_some, Option.isNone_none, vcXHb, Tryd.f9, List.toList_toArray, arr4_zero, nat4_set1, nat4_setL, nat4_set0, hk,h1,h2,pieceC_length,piece_0]))
  by_cases h3 : s < 0
  · (repeat' ((first | with_reducible (first | apply XR_cons | apply XR_consG | apply XR_nil | apply cF_pure3 (by assumption) | apply cF_ev3 (by assumption)) | with_reducible (first | apply gRS (by with_unfolding_all rfl) | apply gR (by with_unfolding_all rfl) | apply gS (by with_unfolding_all rfl) | fail) | refine X_of _ ?_ | with_reducible (first | exact ⟨_, rfl⟩ | refine And.intro ?_ ?_ | intro _)) <;> try simp -implicitDefEqProofs (maxSteps := 1000000) (disch := first | exact dz3 | fail) only [vcR, vcT, simprocAttr, Ab.part, implies_true, forall_const, true_or, Option.isNone_some, Option.isNone_none, vcXHb, Tryd.f9, List.toList_toArray, arr4_zero, nat4_set1, nat4_setL, nat4_set0, hk,h1,h2,h3,pieceC_length,piece_0]))
  by_cases h4 : s > 39
  · (repeat' ((first | with_reducible (first | apply XR_cons | apply XR_consG | apply XR_nil | apply cF_pure3 (by assumption) | apply cF_ev3 (by assumption)) | with_reducible (first | apply gRS (by with_unfolding_all rfl) | apply gR (by with_unfolding_all rfl) | apply gS (by with_unfolding_all rfl) | fail) | refine X_of _ ?_ | with_reducible (first | exact ⟨_, rfl⟩ | refine And.intro ?_ ?_ | intro _)) <;> try simp -implicitDefEqProofs (maxSteps := 1000000) (disch := first | exact dz3 | fail) only [vcR, vcT, simprocAttr, Ab.part, implies_true, forall_const, true_or, Option.isNone_some, Option.isNone_none, vcXHb, Tryd.f9, List.toList_toArray, arr4_zero, nat4_set1, nat4_setL, nat4_set0, hk,h1,h2,h3,h4,pieceC_length,piece_0]))
  obtain ⟨i, rfl⟩ : ∃ i : Nat, s = i := ⟨s.toNat, by omega⟩
  have hi : i < 40 := by omega
  by_cases h5 : ((i + 1 : Nat) : Int) ≥ (Q : Int)
  · (repeat' ((first | with_reducible (first | apply XR_cons | apply XR_consG | apply XR_nil | apply cF_pure3 (by assumption) | apply cF_ev3 (by assumption)) | with_reducible (first | apply gRS (by with_unfolding_all rfl) | apply gR (by with_unfolding_all rfl) | apply gS (by with_unfolding_all rfl) | fail) | refine X_of _ ?_ | with_reducible (first | exact ⟨_, rfl⟩ | refine And.intro ?_ ?_ | intro _)) <;> try simp -implicitDefEqProofs (maxSteps := 1000000) (disch := first | exact dz3 | fail) only [vcR, vcT, simprocAttr, Ab.part, implies_true, forall_const, true_or, Option.isNone_some, Option.isNone_none, vcXHb, Tryd.f9, List.toList_toArray, arr4_zero, nat4_set1, nat4_setL, nat4_set0, hk,h1,h2,h3,h4,hq,h5,pieceC_length,piece_0]))
  have hn0 : n ≠ 0 := by omega
  have e1 := commit_n k kx kq P Q 4 x n c l (by decide) hl (by omega)
  have hc2 : ∀ j, comN P 4 l j < 2 ^ 256 := fun j => hok.gr.1.mod_lt
  have e2 := fun ad c1 => right_e k kx kq P Q 4 (some ad) n c1 (comN P 4 l) (i : Int) a hP2 hQ2 (by decide) hc2 ha (by omega) (by omega)
  have e3 := value_e k kx kq P Q 4 x n c l (i : Int) hl hn (by omega) (by omega)
  rw [binds_law hok (l := l) (fun _ _ => rfl) (by omega) (by omega) (by omega) (by omega) (by unfold placeN; omega)] at e2
  have hv2 : valN Q l n (i : Int) < 2 ^ 256 := hrn_lt hOQ _ _ _ _
  obtain ⟨v, hv⟩ : ∃ v, valN Q l n (i : Int) = v := ⟨_, rfl⟩
  obtain ⟨f, hf⟩ : ∃ f, comN P 4 l = f := ⟨_, rfl⟩
  rw [hv] at e2 e3 hv2
  rw [hf] at e1 e2
  clear hv hf hc2 hok hl hargs hs
  (repeat' ((first | with_reducible (first | apply XR_cons | apply XR_consG | apply XR_nil | apply cF_pure3 (by assumption) | apply cF_ev3 (by assumption)) | with_reducible (first | apply gRS (by with_unfolding_all rfl) | apply gR (by with_unfolding_all rfl) | apply gS (by with_unfolding_all rfl) | fail) | refine X_of _ ?_ | with_reducible (first | exact ⟨_, rfl⟩ | refine And.intro ?_ ?_ | intro _)) <;> try simp -implicitDefEqProofs (maxSteps := 1000000) (disch := first | exact dz3 | fail) only [vcR, vcT, simprocAttr, Ab.part, implies_true, forall_const, true_or, Option.isNone_some, Option.isNone_none, vcXHb, Tryd.f9, List.toList_toArray, arr4_zero, nat4_set1, nat4_setL, nat4_set0, hk,h1,h2,h3,h4,hq,h5,pieceC_length,piece_0]))
  refine xcall_evn (by kernel_rfl) (fun β w' hR => ⟨_, e1, hG w' hR.fr.to, hNx w' hR.fr.to⟩) ?_
  rintro _ _ ⟨c1, sp1, hc1, rfl, rfl⟩
  rw [rowS_s hn0, rowH_s hn0]
  try simp -implicitDefEqProofs (maxSteps := 1000000) (disch := first | exact dz3 | fail) only [vcR, vcT, simprocAttr, Ab.part, implies_true, forall_const, true_or, Option.isNone_some, Option.isNone_none, vcXHb, Tryd.f9, List.toList_toArray]
  refine X_rebase (modEvo 108) w.heap.size [0] (by decide) (by simp) rfl (.inl ⟨rfl, rfl⟩) (fun _ h => h) (by
    intro i hi b hb
    simp only [List.mem_cons, List.not_mem_nil, or_false] at hi
    subst hi
    injection hb with hb
    subst hb
    show ¬ (64 = 108)
    decide) fun β2 w2 hR2 => ?_
  have hG2 : Kn (((ctx0 Tryd.prog w).after (modEvo 108) w.heap.size w1 β1 [0, N]).after (modEvo 108) w.heap.size w2 β2 [0]) (GK k kx kq P Q 4) := hG.after (L := [0]) hR2 (by simp)
  have hO2 : Kn (((ctx0 Tryd.prog w).after (modEvo 108) w.heap.size w1 β1 [0, N]).after (modEvo 108) w.heap.size w2 β2 [0]) oneK := hO.after (L := [0]) hR2 (by simp)
  have hN2 : Kn (((ctx0 Tryd.prog w).after (modEvo 108) w.heap.size w1 β1 [0, N]).after (modEvo 108) w.heap.size w2 β2 [0]) (natsAt (modEvo 108) x n l) := hNx.after (L := [0]) hR2 (by simp)
  have hC : Kn (((ctx0 Tryd.prog w).after (modEvo 108) w.heap.size w1 β1 [0, N]).after (modEvo 108) w.heap.size w2 β2 [0]) (natsAt (modEvo 108) (some ⟨β2 2, 0, none⟩) n f) := natsAt_gone (T0 := 108) (B := w.heap.size) (L := [0]) (j := 2) (sp := sp1.map SV.v) hR2 rfl (by simp) (by simp) (by decide)
  clear hR2 hG hO hNx e1
  simp -implicitDefEqProofs (maxSteps := 1000000) (disch := first | exact dz3 | fail) only [vcR, vcT, simprocAttr, Ab.part, implies_true, forall_const, true_or, Option.isNone_some, Option.isNone_none, vcXHb, Tryd.f9, List.toList_toArray, fz_piece]
  obtain ⟨jc, hjc⟩ : ∃ j, β2 2 = j := ⟨_, rfl⟩
  rw [hjc] at hC
  have e2 := e2 ⟨jc, 0, none⟩ c1
  by_cases hva : v = a
  · subst hva
    rw [if_pos rfl] at e2
    (repeat' ((first | with_reducible (first | apply XR_cons | apply XR_consG | apply XR_nil | apply cF_pure3 (by assumption) | apply cF_ev3 (by assumption)) | with_reducible (first | apply gRS (by with_unfolding_all rfl) | apply gR (by with_unfolding_all rfl) | apply gS (by with_unfolding_all rfl) | fail) | refine X_of _ ?_ | with_reducible (first | exact ⟨_, rfl⟩ | refine And.intro ?_ ?_ | intro _)) <;> try simp -implicitDefEqProofs (maxSteps := 1000000) (disch := first | exact dz3 | fail) only [vcR, vcT, simprocAttr, Ab.part, implies_true, forall_const, true_or, Option.isNone_some, Option.isNone_none, vcXHb, Tryd.f9, List.toList_toArray, arr4_zero, nat4_set1, nat4_setL, nat4_set0, hjc,pieceC_length,piece_0,piece_1,pieceC_okk,pieceC_one,litsEq_self]))
  · rw [if_neg hva] at e2
    (repeat' ((first | with_reducible (first | apply XR_cons | apply XR_consG | apply XR_nil | apply cF_pure3 (by assumption) | apply cF_ev3 (by assumption)) | with_reducible (first | apply gRS (by with_unfolding_all rfl) | apply gR (by with_unfolding_all rfl) | apply gS (by with_unfolding_all rfl) | fail) | refine X_of _ ?_ | with_reducible (first | exact ⟨_, rfl⟩ | refine And.intro ?_ ?_ | intro _)) <;> try simp -implicitDefEqProofs (maxSteps := 1000000) (disch := first | exact dz3 | fail) only [vcR, vcT, simprocAttr, Ab.part, implies_true, forall_const, true_or, Option.isNone_some, Option.isNone_none, vcXHb, Tryd.f9, List.toList_toArray, arr4_zero, nat4_set1, nat4_setL, nat4_set0, hjc,pieceC_length,piece_0,piece_1,pieceC_okk,pieceC_one]))
    all_goals contradiction
end Go.Proofs.YtdmcknmjdlghgaaDoor
