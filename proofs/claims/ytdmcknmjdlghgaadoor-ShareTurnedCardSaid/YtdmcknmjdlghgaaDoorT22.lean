/-
  ShareTurned: in which order pieces come does not matter.
-/
import Derived.Test.YtdmcknmjdlghgaaDoorT01
import Derived.Test.YtdmcknmjdlghgaaDoorT02
import Derived.Test.YtdmcknmjdlghgaaDoorT03
import Derived.Test.YtdmcknmjdlghgaaDoorT05
import Derived.Test.YtdmcknmjdlghgaaDoorT06
import Derived.Test.YtdmcknmjdlghgaaDoorT07
import Derived.Test.YtdmcknmjdlghgaaDoorT10
import Derived.Test.YtdmcknmjdlghgaaDoorT14
import Derived.Test.YtdmcknmjdlghgaaDoorT15
import Derived.Test.YtdmcknmjdlghgaaDoorT16
import Derived.Test.YtdmcknmjdlghgaaDoorT17
namespace Go.Proofs.YtdmcknmjdlghgaaDoor
open Go Go.Ab
set_option linter.unusedSimpArgs false
set_option linter.unusedVariables false
set_option linter.defProp false
set_option maxHeartbeats 20000000
set_option maxRecDepth 100000
theorem gap_pc (n : Nat) (hn : n ≤ 1000000) : apOK Tryd.prog 64 n := by
  have h1 : (Tryd.prog.info? 64).map (fun i => (i.bytes, i.size, i.zero.map fun z => z.cells.size)) = some (40, 5, some 5) := by kernel_rfl
  cases hi : Tryd.prog.info? 64 with
  | none => rw [hi] at h1; cases h1
  | some i =>
    rw [hi] at h1
    simp only [Option.map_some, Option.some.injEq, Prod.mk.injEq] at h1
    obtain ⟨h2, h3, h4⟩ := h1
    obtain ⟨z, hz, hz4⟩ := Option.map_eq_some_iff.1 h4
    exact ⟨i, z, hi, hz, by rw [hz4, h3], by rw [h2]; omega, by omega⟩
theorem gsz_pc : sz Tryd.prog 64 = 5 := by kernel_rfl
theorem gnews_pc {H : Heap} {k t n : Nat} {s : Int} {a : Nat} (hn : n = 5) (hb : H[k]? = some ⟨t, pieceC s a⟩) : newsOf H n (.s (.sl k 0 1 1)) = some (pieceC s a, 1) := by
  subst hn
  have hl : (pieceC s a).length = 5 := pieceC_length
  have h5 : (pieceC s a).take 5 = pieceC s a := List.take_of_length_le (by omega)
  simp [newsOf, hb, hl, part_eq, h5]
theorem gone_pc (s : Int) (a : Nat) : setAt zpc1 0 (pieceC s a) = pieceC s a := by kernel_rfl
theorem shareTurned_m (z : Int) (hz : IntKind.i64.min ≤ z ∧ z ≤ IntKind.i64.max) (x : Option Addr) (m c : Nat) (l : Nat → Nat) (hl : ∀ i, l i < 2 ^ 256) (hm : m < 9223372036854775808) (hmc : m ≤ c)
    (y : Option Addr) (n d : Nat) (S : Nat → Int) (A : Nat → Nat) (hS : ∀ i, -9223372036854775808 ≤ S i ∧ S i < 9223372036854775808) (hA : ∀ i, A i < 2 ^ 256) (hn : n < 9223372036854775808) (hnd : n ≤ d) :
    PureM Tryd.prog 10 [.s (.v (.int .i64 z)), .s (.v (.slice x m c)), .s (.v (.slice y n d))] (fun w => natsAt (modEvo 108) x m l w.heap.size w ∧ pcsAt (modEvo 108) y n S A w.heap.size w ∧ gv w) (.s (.v (.bool true))) := by
  clear hz hmc hnd
  have hsm := lsmall_g z
  have hok := sm_ok z
  obtain ⟨P, hP⟩ : ∃ P, smP z = P := ⟨_, rfl⟩
  obtain ⟨Q, hQ⟩ : ∃ Q, smQ z = Q := ⟨_, rfl⟩
  rw [hP, hQ] at hsm hok
  clear hP hQ
  have haw := shawake_m.ev (V := Evo.none)
  (refine pureM_of Tryd.func10 rfl (by simp only [List.length_cons, List.length_nil, List.map_cons, List.map_nil, List.nodup_cons, List.nodup_nil, List.mem_cons, Nat.reduceAdd, Nat.reduceEqDiff, or_false, not_false_eq_true, forall_eq_or_imp, forall_eq, or_self, Nat.reduceLT, Nat.reduceLeDiff, and_self, List.forall_mem_cons, List.not_mem_nil, false_implies, implies_true, and_true, true_and, vcOHb]) (by simp only [List.length_cons, List.length_nil, List.map_cons, List.map_nil, List.nodup_cons, List.nodup_nil, List.mem_cons, Nat.reduceAdd, Nat.reduceEqDiff, or_false, not_false_eq_true, forall_eq_or_imp, forall_eq, or_self, Nat.reduceLT, Nat.reduceLeDiff, and_self, List.forall_mem_cons, List.not_mem_nil, false_implies, implies_true, and_true, true_and, vcOHb]) fun w hpre => ?_; simp only [List.length_cons, List.length_nil, Tryd.ntmps10, Nat.reduceAdd, Nat.reduceSub, List.replicate_succ, List.replicate_zero, List.cons_append, List.nil_append])
  have hgv := gv_kn (P0 := Tryd.prog) hpre.2.2
  (repeat' ((first | with_reducible (first | apply XR_append | apply XR_cons | apply XR_consG | apply XR_nil | apply cF_pure3 (by assumption) | apply cF_ev3 (by assumption)) | with_reducible (first | apply gRS (by with_unfolding_all rfl) | apply gR (by with_unfolding_all rfl) | apply gS (by with_unfolding_all rfl) | fail) | refine X_of _ ?_ | with_reducible (first | exact ⟨_, rfl⟩ | refine And.intro ?_ ?_ | intro _)) <;> try simp -implicitDefEqProofs (maxSteps := 1000000) (disch := first | exact dz3 | fail) only [vcR, vcT, simprocAttr, Ab.part, implies_true, forall_const, true_or, Option.isNone_some, Option.isNone_none, vcXHb, Tryd.f10, List.toList_toArray, arr4_zero, nat4_set1, nat4_setL, nat4_set0]))
  refine yF_lsmall (N := 0) hsm hgv rfl (fun _ h => h) rfl ?_
  intro bx bq
  (try (first | with_reducible refine X_regRS ?_ | with_reducible refine X_regR ?_ | (with_reducible refine X_seqX ?_; with_reducible refine X_blockX ?_; with_reducible refine X_regR ?_))); (repeat ((first | with_reducible refine XR_make ?_ | with_reducible refine XR_append ?_ | with_reducible refine XR_cons ?_ | with_reducible refine XR_consG ?_ | with_reducible refine XR_nil ?_); try simp -implicitDefEqProofs (maxSteps := 1000000) (disch := first | exact dz3 | fail) only [vcR, vcT, simprocAttr, Ab.part, implies_true, forall_const, true_or, Option.isNone_some, Option.isNone_none, vcXHb, Tryd.f10, List.toList_toArray]))
  refine X_grp 0 1 2 [] rfl rfl rfl hok.gr.1 hok.gr.2.1 (by decide) (by simp) (by simp) (by simp) (by simp [pickH_nil]) fun β1 w1 hR1 hG hK => ?_
  have hO := gv_one hpre.2.2 hR1 (L := []) (fun i hi => by simp at hi)
  have hNx := hK _ (natsAt_stays _ x m l) hpre.1
  have hY := hK _ (pcsAt_stays _ y n S A) hpre.2.1
  have hadr : n ≠ 0 → ∃ ad, y = some ad := fun h => by
    rcases hpre.2.1 with h0 | ⟨ad, h0, _⟩
    · omega
    · exact ⟨ad, h0⟩
  clear hR1 hK hgv hpre haw hsm
  simp -implicitDefEqProofs (maxSteps := 1000000) (disch := first | exact dz3 | fail) only [vcR, vcT, simprocAttr, Ab.part, implies_true, forall_const, true_or, Option.isNone_some, Option.isNone_none, vcXHb, Tryd.f10, List.toList_toArray]
  obtain ⟨k, hk⟩ : ∃ k, β1 0 = k := ⟨_, rfl⟩
  obtain ⟨kx, hkx⟩ : ∃ k, β1 1 = k := ⟨_, rfl⟩
  obtain ⟨kq, hkq⟩ : ∃ k, β1 2 = k := ⟨_, rfl⟩
  rw [hk, hkx, hkq] at hG
  have hOQ := hok.gr.2.1
  have hP2 := hok.gr.1.lt
  have hQ2 := hOQ.lt
  by_cases h6 : (m : Int) > 6
  · clear hl hS hA
    (repeat' ((first | with_reducible (first | apply XR_append | apply XR_cons | apply XR_consG | apply XR_nil | apply cF_pure3 (by assumption) | apply cF_ev3 (by assumption)) | with_reducible (first | apply gRS (by with_unfolding_all rfl) | apply gR (by with_unfolding_all rfl) | apply gS (by with_unfolding_all rfl) | fail) | refine X_of _ ?_ | with_reducible (first | exact ⟨_, rfl⟩ | refine And.intro ?_ ?_ | intro _)) <;> try simp -implicitDefEqProofs (maxSteps := 1000000) (disch := first | exact dz3 | fail) only [vcR, vcT, simprocAttr, Ab.part, implies_true, forall_const, true_or, Option.isNone_some, Option.isNone_none, vcXHb, Tryd.f10, List.toList_toArray, arr4_zero, nat4_set1, nat4_setL, nat4_set0, hk,h6]))
  by_cases h7 : (n : Int) > 7
  · clear hl hS hA
    (repeat' ((first | with_reducible (first | apply XR_append | apply XR_cons | apply XR_consG | apply XR_nil | apply cF_pure3 (by assumption) | apply cF_ev3 (by assumption)) | with_reducible (first | apply gRS (by with_unfolding_all rfl) | apply gR (by with_unfolding_all rfl) | apply gS (by with_unfolding_all rfl) | fail) | refine X_of _ ?_ | with_reducible (first | exact ⟨_, rfl⟩ | refine And.intro ?_ ?_ | intro _)) <;> try simp -implicitDefEqProofs (maxSteps := 1000000) (disch := first | exact dz3 | fail) only [vcR, vcT, simprocAttr, Ab.part, implies_true, forall_const, true_or, Option.isNone_some, Option.isNone_none, vcXHb, Tryd.f10, List.toList_toArray, arr4_zero, nat4_set1, nat4_setL, nat4_set0, hk,h6,h7]))
  have hS2 : ∀ i, -9223372036854775808 ≤ S i ∧ S i ≤ 9223372036854775807 := fun i => by have := hS i; omega
  have e1 := recover_e k kx kq P Q 4 x m c l y n d S A hP2 hQ2 (by decide) hl hA hS2 hm (by omega)
  have e2 := fun (y' : Option Addr) d' => recover_e k kx kq P Q 4 x m c l y' n d' (fun i => S (n - 1 - i)) (fun i => A (n - 1 - i)) hP2 hQ2 (by decide) hl (fun i => hA _) (fun i => hS2 _) hm (by omega)
  obtain ⟨t1, t2⟩ := turned_law (Q := Q) (P := P) hOQ.gt (m := m) (n := n) (c := l) (A := A) (A' := fun i => A (n - 1 - i)) (S := S) (S' := fun i => S (n - 1 - i)) (fun _ _ => rfl) (fun _ _ => rfl)
  have hv2 : recV P Q 4 m l n S A < 2 ^ 256 := by
    unfold recV
    simp only
    split
    · decide
    · split
      · decide
      · split
        · decide
        · unfold atz
          split
          · exact sumM_lt hOQ _ _
          · decide
  rw [t1] at e2
  obtain ⟨v, hv⟩ : ∃ v, recV P Q 4 m l n S A = v := ⟨_, rfl⟩
  obtain ⟨e, he⟩ : ∃ e, recE P Q 4 m l n S A = e := ⟨_, rfl⟩
  obtain ⟨e', he'⟩ : ∃ e, recE P Q 4 m l n (fun i => S (n - 1 - i)) (fun i => A (n - 1 - i)) = e := ⟨_, rfl⟩
  rw [hv] at e1 e2 hv2
  rw [he] at e1 t2
  rw [he'] at e2 t2
  clear hv he he' t1 hok hl hA hS hS2
  obtain ⟨S', hS'⟩ : ∃ S' : Nat → Int, (fun i => S (n - 1 - i)) = S' := ⟨_, rfl⟩
  obtain ⟨A', hA'⟩ : ∃ A' : Nat → Nat, (fun i => A (n - 1 - i)) = A' := ⟨_, rfl⟩
  have hS1 : ∀ i, S (n - 1 - i) = S' i := fun i => by rw [← hS']
  have hA1 : ∀ i, A (n - 1 - i) = A' i := fun i => by rw [← hA']
  rw [hS', hA'] at e2
  clear hS' hA'
  have hszz : sz ((ctx0 Tryd.prog w).after (modEvo 108) w.heap.size w1 β1 []).P 64 = 5 := gsz_pc
  (repeat' ((first | with_reducible (first | apply XR_append | apply XR_cons | apply XR_consG | apply XR_nil | apply cF_pure3 (by assumption) | apply cF_ev3 (by assumption)) | with_reducible (first | apply gRS (by with_unfolding_all rfl) | apply gR (by with_unfolding_all rfl) | apply gS (by with_unfolding_all rfl) | fail) | refine X_of _ ?_ | with_reducible (first | exact ⟨_, rfl⟩ | refine And.intro ?_ ?_ | intro _)) <;> try simp -implicitDefEqProofs (maxSteps := 1000000) (disch := first | exact dz3 | fail) only [vcR, vcT, simprocAttr, Ab.part, implies_true, forall_const, true_or, Option.isNone_some, Option.isNone_none, vcXHb, Tryd.f10, List.toList_toArray, arr4_zero, nat4_set1, nat4_setL, nat4_set0, hk,h6,h7]))
  refine X_loopT (ι := Nat × Nat × List Value) (fun k => k.1 ≤ n ∧ (k.1 ≠ 0 → k.1 ≤ k.2.1 ∧ k.2.2.length = (k.2.1 - k.1) * 5)) (fun k => n - k.1) [9, 10, 32, 33, 34, 35, 36, 37, 38, 39, 40, 41, 42]
    (fun k => [(9, rowS 0 k.1 k.2.1), (10, .s (.v (.int .i64 ((n : Int) - 1 - (k.1 : Nat)))))])
    (fun k => rowH 64 k.1 (pcs k.1 S' A') k.2.2) (0, 0, []) ?_ (by decide) ?_ ?_
  · rintro ⟨i, c', sp⟩ ⟨hi, _⟩
    refine ⟨by simp, ?_, by simp, ?_⟩
    · simp only [List.forall_mem_cons]
      refine ⟨rowS_ok fun h0 => ?_, trivial, fun x hx => by simp at hx⟩
      rw [rowH_s h0]; exact Nat.zero_lt_one
    · exact row_okG (pcs_ok _)
  · refine ⟨⟨Nat.zero_le _, fun h => absurd rfl h⟩, [], ⟨by decide, rfl⟩, ?_, ?_⟩
    · simp -implicitDefEqProofs (maxSteps := 1000000) (disch := first | exact dz3 | fail) only [vcR, vcT, simprocAttr, Ab.part, implies_true, forall_const, true_or, Option.isNone_some, Option.isNone_none, vcXHb, Tryd.f10, List.toList_toArray, renS_cons,renS_nil,ren_v,rowS_0]
      try simp
    · first | trivial | exact ⟨⟩ | rfl
  · rintro ⟨i, c', sp⟩ us ⟨hi, hrow⟩
    simp only at hi hrow ⊢
    by_cases hin : i < n
    · obtain ⟨ad, rfl⟩ := hadr (by omega)
      obtain ⟨q, hq⟩ : ∃ q, n - 1 - i = q := ⟨_, rfl⟩
      have hqi : (n : Int) - 1 - (i : Nat) = (q : Nat) := by omega
      have hqn : q < n := by omega
      have hx : ∀ {K : TV → HE → Prop}, xext ((ctx0 Tryd.prog w).after (modEvo 108) w.heap.size w1 β1 []) (some true) 5 (ad.add (q * 5)) K = K (.agg (pieceC (S q) (A q))) .none := fun {K} => Kn.pcs hY hqn
      have s1 := hS1 i
      have s2 := hA1 i
      rw [hq] at s1 s2
      rw [hqi]
      clear hS1 hA1 e1 e2
      by_cases h0 : i = 0
      · subst h0
        rw [rowH_0]
        (repeat' ((first | with_reducible (first | apply XR_append | apply XR_cons | apply XR_consG | apply XR_nil | apply cF_pure3 (by assumption) | apply cF_ev3 (by assumption)) | with_reducible (first | apply gRS (by with_unfolding_all rfl) | apply gR (by with_unfolding_all rfl) | apply gS (by with_unfolding_all rfl) | apply gSB (by with_unfolding_all rfl) | apply gB (by with_unfolding_all rfl) | fail) | refine X_of _ ?_ | with_reducible (first | exact ⟨_, rfl⟩ | refine And.intro ?_ ?_ | intro _)) <;> try simp -implicitDefEqProofs (maxSteps := 1000000) (disch := first | exact dz3 | fail) only [vcR, vcT, simprocAttr, Ab.part, implies_true, forall_const, true_or, Option.isNone_some, Option.isNone_none, vcXHb, Tryd.f10, List.toList_toArray, arr4_zero, nat4_set1, nat4_setL, nat4_set0, hx,st_bs,xbs_some,gzpc1,zpc1_len,gone_pc,pieceC_length,pieceC_okk,pieceC_one]))
        refine xappend_row (cs := pcs 0 S' A') (sp := sp) (gnews_pc (s := S q) (a := A q) hszz rfl) (fun h => absurd rfl h) (by rw [pcs_length, hszz]) (by rw [pieceC_length, hszz]) (gap_pc _ (by omega)) (by rw [pieceC_one]; trivial) (by first | exact fun h => h | (show ¬ (64 = 108); decide)) fun j' c'' sp' H' h1 h2 h3 h4 h5 h6 => ?_
        clear h4 h5 h6 hx
        (repeat' ((first | with_reducible (first | apply XR_append | apply XR_cons | apply XR_consG | apply XR_nil | apply cF_pure3 (by assumption) | apply cF_ev3 (by assumption)) | with_reducible (first | apply gRS (by with_unfolding_all rfl) | apply gR (by with_unfolding_all rfl) | apply gS (by with_unfolding_all rfl) | apply gSB (by with_unfolding_all rfl) | apply gB (by with_unfolding_all rfl) | fail) | refine X_of _ ?_ | with_reducible (first | exact ⟨_, rfl⟩ | refine And.intro ?_ ?_ | intro _)) <;> try simp -implicitDefEqProofs (maxSteps := 1000000) (disch := first | exact dz3 | fail) only [vcR, vcT, simprocAttr, Ab.part, implies_true, forall_const, true_or, Option.isNone_some, Option.isNone_none, vcXHb, Tryd.f10, List.toList_toArray, arr4_zero, nat4_set1, nat4_setL, nat4_set0]))
        refine ⟨(0 + 1, c'', sp'), by simp; omega, ⟨⟨by simp; omega, fun _ => ⟨h1, by rw [hszz] at h2; exact h2⟩⟩, [j'], ⟨by simp, rfl⟩, ?_, ⟨?_, trivial⟩⟩⟩
        · have e1 : (rowS 0 (0 + 1) c'').ren (lk [j']) = .s (.sl j' 0 (0 + 1) c'') := by rw [ren_rowS, rowS_s (by omega)]; rfl
          simp -implicitDefEqProofs (maxSteps := 1000000) (disch := first | exact dz3 | fail) only [vcR, vcT, simprocAttr, Ab.part, implies_true, forall_const, true_or, Option.isNone_some, Option.isNone_none, vcXHb, Tryd.f10, List.toList_toArray, renS_cons,renS_nil,ren_v,e1]
          try omega
        · rw [h3, s1, s2]
          exact congrArg (fun x => some (AB.mk _ (x ++ _))) (pcs_snoc (S := S') (A := A'))
      · obtain ⟨hkc, hsp⟩ := hrow h0
        rw [rowH_s h0]
        (repeat' ((first | with_reducible (first | apply XR_append | apply XR_cons | apply XR_consG | apply XR_nil | apply cF_pure3 (by assumption) | apply cF_ev3 (by assumption)) | with_reducible (first | apply gRS (by with_unfolding_all rfl) | apply gR (by with_unfolding_all rfl) | apply gS (by with_unfolding_all rfl) | apply gSB (by with_unfolding_all rfl) | apply gB (by with_unfolding_all rfl) | fail) | refine X_of _ ?_ | with_reducible (first | exact ⟨_, rfl⟩ | refine And.intro ?_ ?_ | intro _)) <;> try simp -implicitDefEqProofs (maxSteps := 1000000) (disch := first | exact dz3 | fail) only [vcR, vcT, simprocAttr, Ab.part, implies_true, forall_const, true_or, Option.isNone_some, Option.isNone_none, vcXHb, Tryd.f10, List.toList_toArray, arr4_zero, nat4_set1, nat4_setL, nat4_set0, hx,st_bs,xbs_some,gzpc1,zpc1_len,gone_pc,pieceC_length,pieceC_okk,pieceC_one]))
        refine xappend_row (cs := pcs i S' A') (sp := sp) (gnews_pc (s := S q) (a := A q) hszz rfl) (fun _ => ⟨rfl, hkc, by rw [hszz]; exact hsp⟩) (by rw [pcs_length, hszz]; omega) (by rw [pieceC_length, hszz]) (gap_pc _ (by omega)) (by rw [pieceC_one]; trivial) (by first | exact fun h => h | (show ¬ (64 = 108); decide)) fun j' c'' sp' H' h1 h2 h3 h4 h5 h6 => ?_
        clear h4 h5 h6 hx
        (repeat' ((first | with_reducible (first | apply XR_append | apply XR_cons | apply XR_consG | apply XR_nil | apply cF_pure3 (by assumption) | apply cF_ev3 (by assumption)) | with_reducible (first | apply gRS (by with_unfolding_all rfl) | apply gR (by with_unfolding_all rfl) | apply gS (by with_unfolding_all rfl) | apply gSB (by with_unfolding_all rfl) | apply gB (by with_unfolding_all rfl) | fail) | refine X_of _ ?_ | with_reducible (first | exact ⟨_, rfl⟩ | refine And.intro ?_ ?_ | intro _)) <;> try simp -implicitDefEqProofs (maxSteps := 1000000) (disch := first | exact dz3 | fail) only [vcR, vcT, simprocAttr, Ab.part, implies_true, forall_const, true_or, Option.isNone_some, Option.isNone_none, vcXHb, Tryd.f10, List.toList_toArray, arr4_zero, nat4_set1, nat4_setL, nat4_set0]))
        refine ⟨(i + 1, c'', sp'), by simp; omega, ⟨⟨by simp; omega, fun _ => ⟨h1, by rw [hszz] at h2; exact h2⟩⟩, [j'], ⟨by simp, rfl⟩, ?_, ⟨?_, trivial⟩⟩⟩
        · have e1 : (rowS 0 (i + 1) c'').ren (lk [j']) = .s (.sl j' 0 (i + 1) c'') := by rw [ren_rowS, rowS_s (by omega)]; rfl
          simp -implicitDefEqProofs (maxSteps := 1000000) (disch := first | exact dz3 | fail) only [vcR, vcT, simprocAttr, Ab.part, implies_true, forall_const, true_or, Option.isNone_some, Option.isNone_none, vcXHb, Tryd.f10, List.toList_toArray, renS_cons,renS_nil,ren_v,e1]
          try omega
        · rw [h3, s1, s2]
          exact congrArg (fun x => some (AB.mk _ (x ++ _))) (pcs_snoc (S := S') (A := A'))
    · have : i = n := by omega
      subst this
      have hneg : (i : Int) - 1 - (i : Nat) = -1 := by omega
      rw [hneg]
      clear hS1 hA1 hadr hin hi
      by_cases h0 : i = 0
      · subst h0
        rw [rowH_0]
        have hY' : Kn ((ctx0 Tryd.prog w).after (modEvo 108) w.heap.size w1 β1 []) (pcsAt (modEvo 108) none 0 S' A') := fun _ _ => .inl rfl
        have e2 := e2 none 0
        by_cases hez : e = 0
        · have hez' := t2.2 hez
          subst hez
          (repeat' ((first | with_reducible (first | apply XR_append | apply XR_cons | apply XR_consG | apply XR_nil | apply cF_pure3 (by assumption) | apply cF_ev3 (by assumption)) | with_reducible (first | apply gRS (by with_unfolding_all rfl) | apply gR (by with_unfolding_all rfl) | apply gS (by with_unfolding_all rfl) | fail) | refine X_of _ ?_ | with_reducible (first | exact ⟨_, rfl⟩ | refine And.intro ?_ ?_ | intro _)) <;> try simp -implicitDefEqProofs (maxSteps := 1000000) (disch := first | exact dz3 | fail) only [vcR, vcT, simprocAttr, Ab.part, implies_true, forall_const, true_or, Option.isNone_some, Option.isNone_none, vcXHb, Tryd.f10, List.toList_toArray, arr4_zero, nat4_set1, nat4_setL, nat4_set0, rowS_0,litsEq_self,hez']))
        · have hez1 : (e == 0) = false := by simpa using hez
          have hez' : (e' == 0) = false := by simpa using fun h => hez (t2.1 h)
          (repeat' ((first | with_reducible (first | apply XR_append | apply XR_cons | apply XR_consG | apply XR_nil | apply cF_pure3 (by assumption) | apply cF_ev3 (by assumption)) | with_reducible (first | apply gRS (by with_unfolding_all rfl) | apply gR (by with_unfolding_all rfl) | apply gS (by with_unfolding_all rfl) | fail) | refine X_of _ ?_ | with_reducible (first | exact ⟨_, rfl⟩ | refine And.intro ?_ ?_ | intro _)) <;> try simp -implicitDefEqProofs (maxSteps := 1000000) (disch := first | exact dz3 | fail) only [vcR, vcT, simprocAttr, Ab.part, implies_true, forall_const, true_or, Option.isNone_some, Option.isNone_none, vcXHb, Tryd.f10, List.toList_toArray, arr4_zero, nat4_set1, nat4_setL, nat4_set0, rowS_0,litsEq_self,hez1,hez']))
      · rw [rowH_s h0]
        obtain ⟨hkc, hsp⟩ := hrow h0
        by_cases hez : e = 0
        · have hez' := t2.2 hez
          subst hez
          (repeat' ((first | with_reducible (first | apply XR_append | apply XR_cons | apply XR_consG | apply XR_nil | apply cF_pure3 (by assumption) | apply cF_ev3 (by assumption)) | with_reducible (first | apply gRS (by with_unfolding_all rfl) | apply gR (by with_unfolding_all rfl) | apply gS (by with_unfolding_all rfl) | fail) | refine X_of _ ?_ | with_reducible (first | exact ⟨_, rfl⟩ | refine And.intro ?_ ?_ | intro _)) <;> try simp -implicitDefEqProofs (maxSteps := 1000000) (disch := first | exact dz3 | fail) only [vcR, vcT, simprocAttr, Ab.part, implies_true, forall_const, true_or, Option.isNone_some, Option.isNone_none, vcXHb, Tryd.f10, List.toList_toArray, arr4_zero, nat4_set1, nat4_setL, nat4_set0, rowS_s h0,litsEq_self,hez']))
          refine yF_evz (fun β' w' hR => ⟨_, e2 (some ⟨β' 0, 0, none⟩) c', ⟨hG w' hR.fr.to, hO w' hR.fr.to⟩, hNx w' hR.fr.to, pcsAt_own hR rfl (by decide)⟩) rfl rfl (by kernel_rfl) ?_
          try simp -implicitDefEqProofs (maxSteps := 1000000) (disch := first | exact dz3 | fail) only [vcR, vcT, simprocAttr, Ab.part, implies_true, forall_const, true_or, Option.isNone_some, Option.isNone_none, vcXHb, Tryd.f10, List.toList_toArray]
          (repeat' ((first | with_reducible (first | apply XR_append | apply XR_cons | apply XR_consG | apply XR_nil | apply cF_pure3 (by assumption) | apply cF_ev3 (by assumption)) | with_reducible (first | apply gRS (by with_unfolding_all rfl) | apply gR (by with_unfolding_all rfl) | apply gS (by with_unfolding_all rfl) | fail) | refine X_of _ ?_ | with_reducible (first | exact ⟨_, rfl⟩ | refine And.intro ?_ ?_ | intro _)) <;> try simp -implicitDefEqProofs (maxSteps := 1000000) (disch := first | exact dz3 | fail) only [vcR, vcT, simprocAttr, Ab.part, implies_true, forall_const, true_or, Option.isNone_some, Option.isNone_none, vcXHb, Tryd.f10, List.toList_toArray, arr4_zero, nat4_set1, nat4_setL, nat4_set0, litsEq_self,hez']))
        · have hez1 : (e == 0) = false := by simpa using hez
          have hez' : (e' == 0) = false := by simpa using fun h => hez (t2.1 h)
          (repeat' ((first | with_reducible (first | apply XR_append | apply XR_cons | apply XR_consG | apply XR_nil | apply cF_pure3 (by assumption) | apply cF_ev3 (by assumption)) | with_reducible (first | apply gRS (by with_unfolding_all rfl) | apply gR (by with_unfolding_all rfl) | apply gS (by with_unfolding_all rfl) | fail) | refine X_of _ ?_ | with_reducible (first | exact ⟨_, rfl⟩ | refine And.intro ?_ ?_ | intro _)) <;> try simp -implicitDefEqProofs (maxSteps := 1000000) (disch := first | exact dz3 | fail) only [vcR, vcT, simprocAttr, Ab.part, implies_true, forall_const, true_or, Option.isNone_some, Option.isNone_none, vcXHb, Tryd.f10, List.toList_toArray, arr4_zero, nat4_set1, nat4_setL, nat4_set0, rowS_s h0,litsEq_self,hez1,hez']))
          refine yF_evz (fun β' w' hR => ⟨_, e2 (some ⟨β' 0, 0, none⟩) c', ⟨hG w' hR.fr.to, hO w' hR.fr.to⟩, hNx w' hR.fr.to, pcsAt_own hR rfl (by decide)⟩) rfl rfl (by kernel_rfl) ?_
          try simp -implicitDefEqProofs (maxSteps := 1000000) (disch := first | exact dz3 | fail) only [vcR, vcT, simprocAttr, Ab.part, implies_true, forall_const, true_or, Option.isNone_some, Option.isNone_none, vcXHb, Tryd.f10, List.toList_toArray]
          (repeat' ((first | with_reducible (first | apply XR_append | apply XR_cons | apply XR_consG | apply XR_nil | apply cF_pure3 (by assumption) | apply cF_ev3 (by assumption)) | with_reducible (first | apply gRS (by with_unfolding_all rfl) | apply gR (by with_unfolding_all rfl) | apply gS (by with_unfolding_all rfl) | fail) | refine X_of _ ?_ | with_reducible (first | exact ⟨_, rfl⟩ | refine And.intro ?_ ?_ | intro _)) <;> try simp -implicitDefEqProofs (maxSteps := 1000000) (disch := first | exact dz3 | fail) only [vcR, vcT, simprocAttr, Ab.part, implies_true, forall_const, true_or, Option.isNone_some, Option.isNone_none, vcXHb, Tryd.f10, List.toList_toArray, arr4_zero, nat4_set1, nat4_setL, nat4_set0, litsEq_self,hez1,hez']))
end Go.Proofs.YtdmcknmjdlghgaaDoor
