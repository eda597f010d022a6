/-
  modq: what values count for.
  modq: the value at 0.
  Pieces that are handed in; functions beside which something is said of the world.
  Points in rows; what is read of a piece.
  share: Recover.
-/
import Derived.Test.YtdmcknmjdlghgaaDoorT01
import Derived.Test.YtdmcknmjdlghgaaDoorT02
import Derived.Test.YtdmcknmjdlghgaaDoorT03
import Derived.Test.YtdmcknmjdlghgaaDoorT05
import Derived.Test.YtdmcknmjdlghgaaDoorT06
import Derived.Test.YtdmcknmjdlghgaaDoorT07
import Derived.Test.YtdmcknmjdlghgaaDoorT10
import Derived.Test.YtdmcknmjdlghgaaDoorT11
import Derived.Test.YtdmcknmjdlghgaaDoorT12
import Derived.Test.YtdmcknmjdlghgaaDoorT14
import Derived.Test.YtdmcknmjdlghgaaDoorT15
namespace Go.Proofs.YtdmcknmjdlghgaaDoor
open Go Go.Ab
set_option linter.unusedSimpArgs false
set_option linter.unusedVariables false
set_option linter.defProp false
set_option maxHeartbeats 20000000
set_option maxRecDepth 100000
theorem ap_nat (n : Nat) (hn : n ≤ 1000000) : apOK Tryd.prog 24 n := by
  have h1 : (Tryd.prog.info? 24).map (fun i => (i.bytes, i.size, i.zero.map fun z => z.cells.size)) = some (32, 4, some 4) := by kernel_rfl
  cases hi : Tryd.prog.info? 24 with
  | none => rw [hi] at h1; cases h1
  | some i =>
    rw [hi] at h1
    simp only [Option.map_some, Option.some.injEq, Prod.mk.injEq] at h1
    obtain ⟨h2, h3, h4⟩ := h1
    obtain ⟨z, hz, hz4⟩ := Option.map_eq_some_iff.1 h4
    exact ⟨i, z, hi, hz, by rw [hz4, h3], by rw [h2]; omega, by omega⟩
theorem sz_nat : sz Tryd.prog 24 = 4 := by kernel_rfl
theorem news_nat {H : Heap} {k t a n : Nat} (hn : n = 4) (hb : H[k]? = some ⟨t, nat4 a⟩) : newsOf H n (.s (.sl k 0 1 1)) = some (nat4 a, 1) := by
  subst hn
  have hl : (nat4 a).length = 4 := nat4_length
  have h4 : (nat4 a).take 4 = nat4 a := List.take_of_length_le (by omega)
  simp [newsOf, hb, hl, part_eq, h4]
theorem one_set (a : Nat) : setAt (nat4 0) 0 (nat4 a) = nat4 a := rfl
theorem xslice_pre {arr : Option (Nat × TypeId)} {e : TypeId} {sz : TypeId → Nat} {ad : Addr} {n c i : Nat} {k : IntKind} {K : TV → Prop} (h : i ≤ c) :
    xslice arr (some e) sz (.s (.v (.slice (some ad) n c))) none (some (.s (.v (.int k (i : Int))))) K = K (.s (.v (.slice (some ad) i c))) := by
  have hb : bnd n (some (.s (.v (.int k (i : Int))))) = some i := by rw [bnd_int (by omega)]; rfl
  rw [xslice_v, hb, bnd_none, xslB_some]
  have e1 : (if c = 0 then some ad else Option.map (fun x => x.add (0 * sz e)) (some ad)) = some ad := by
    split
    · rfl
    · rw [Nat.zero_mul, Option.map_some]; exact congrArg some (by cases ad; rfl)
  rw [e1, Nat.sub_zero, Nat.sub_zero]
  exact propext ⟨fun h => h.2, fun h' => ⟨⟨Nat.zero_le _, h⟩, h'⟩⟩
theorem weights_n (kb m : Nat) (x : Option Addr) (n c : Nat) (l : Nat → Nat) (hG : OddM m) (hl : ∀ i, l i < 2 ^ 256) (hn : n ≤ 100) (hc : n ≤ c) :
    EvN (modEvo 108) Tryd.prog 91 [.s (.v (.pointer (some ⟨kb, 0, none⟩))), .s (.v (.slice x n c))] (fun B w => isMod 108 kb m B w ∧ natsAt (modEvo 108) x n l B w)
      (wOut 24 m l n) := by
  (refine evN_of Tryd.func91 rfl (by simp only [List.length_cons, List.length_nil, List.map_cons, List.map_nil, List.nodup_cons, List.nodup_nil, List.mem_cons, Nat.reduceAdd, Nat.reduceEqDiff, or_false, not_false_eq_true, forall_eq_or_imp, forall_eq, or_self, Nat.reduceLT, Nat.reduceLeDiff, and_self, List.forall_mem_cons, List.not_mem_nil, false_implies, implies_true, and_true, true_and, vcOAb25]) fun B w hpre => ?_; simp only [List.length_cons, List.length_nil, Tryd.ntmps91, Nat.reduceAdd, Nat.reduceSub, List.replicate_succ, List.replicate_zero, List.cons_append, List.nil_append])
  have hM : Kn (ctxE Tryd.prog (modEvo 108) w B) (isMod 108 kb m) := Kn.entry (isMod_stays _ kb m) hpre.1
  have hN : Kn (ctxE Tryd.prog (modEvo 108) w B) (natsAt (modEvo 108) x n l) := Kn.entry (natsAt_stays _ x n l) hpre.2
  have hx0 := hpre.2
  clear hpre
  have hz1 : slice0 Tryd.prog 24 1 = some (arr 4 fun _ => 0) := by kernel_rfl
  have hadr : n ≠ 0 → ∃ ad, x = some ad := fun h => by
    rcases hx0 with h0 | ⟨ad, h0, _⟩
    · omega
    · exact ⟨ad, h0⟩
  clear hx0
  (repeat' ((first | with_reducible (first | apply XR_append | apply XR_slice | apply XR_cons | apply XR_consG | apply XR_nil | apply cF_pure (by assumption) | apply cF_ev (by assumption) | apply cF_ev (minus_e _ _ _ _ bd bd bd)) | with_reducible (first | apply gRS (by with_unfolding_all rfl) | apply gR (by with_unfolding_all rfl) | apply gS (by with_unfolding_all rfl) | fail) | refine X_of _ ?_ | with_reducible (first | exact ⟨_, rfl⟩ | refine And.intro ?_ ?_ | intro _)) <;> try simp -implicitDefEqProofs (maxSteps := 1000000) (disch := first | exact dz | fail) only [vcR, vcT, simprocAttr, Ab.part, implies_true, forall_const, true_or, Option.isNone_some, Option.isNone_none, vcXAb25, Tryd.f91, List.toList_toArray, arr4_zero, nat4_set1, nat4_setL, nat4_set0]))
  refine X_loop (ι := Nat) (fun i => i ≤ n ∧ sm m l i = false) (fun i => n - i) [6, 7, 9, 16, 17, 18, 19, 20, 21, 22, 23, 24, 25, 26, 27, 28, 29, 30, 31, 32, 33, 34, 35, 36]
    (fun i => [(16, .s (.v (.int .i64 (i : Nat))))])
    (fun i => []) 0 (shape_of fun i => ?_) (by decide) ?_ ?_
  · simp only [List.length_cons, List.length_nil, List.map_cons, List.map_nil, List.nodup_cons, List.nodup_nil, List.mem_cons, Nat.reduceAdd, Nat.reduceEqDiff, or_false, not_false_eq_true, forall_eq_or_imp, forall_eq, or_self, Nat.reduceLT, Nat.reduceLeDiff, and_self, List.forall_mem_cons, List.not_mem_nil, false_implies, implies_true, and_true, true_and, vcOAb25]
  · simp -implicitDefEqProofs (maxSteps := 1000000) (disch := first | exact dz | fail) only [vcR, vcT, simprocAttr, Ab.part, implies_true, forall_const, true_or, Option.isNone_some, Option.isNone_none, vcXAb25, Tryd.f91, List.toList_toArray, again_eq]
    try simp
    all_goals rfl
  · intro i us ⟨hi, hsm⟩
    by_cases h : i < n
    · obtain ⟨ad, rfl⟩ := hadr (by omega)
      have hx : ∀ {K : TV → HE → Prop}, xext (ctxE Tryd.prog (modEvo 108) w B) (some true) 4 (ad.add (i * 4)) K = K (.agg (nat4 (l i))) .none := fun {K} => hN.nat h
      have hli := hl i
      have hpre : ∀ {arr : Option (Nat × TypeId)} {e : TypeId} {sz : TypeId → Nat} {k : IntKind} {K : TV → Prop}, xslice arr (some e) sz (.s (.v (.slice (some ad) n c))) none (some (.s (.v (.int k (i : Int))))) K = K (.s (.v (.slice (some ad) i c))) := xslice_pre (by omega)
      (repeat' ((first | with_reducible (first | apply XR_append | apply XR_slice | apply XR_cons | apply XR_consG | apply XR_nil | apply cF_pure (by assumption) | apply cF_ev (by assumption) | apply cF_ev (minus_e _ _ _ _ bd bd bd)) | with_reducible (first | apply gRS (by with_unfolding_all rfl) | apply gR (by with_unfolding_all rfl) | apply gS (by with_unfolding_all rfl) | fail) | refine X_of _ ?_ | with_reducible (first | exact ⟨_, rfl⟩ | refine And.intro ?_ ?_ | intro _)) <;> try simp -implicitDefEqProofs (maxSteps := 1000000) (disch := first | exact dz | fail) only [vcR, vcT, simprocAttr, Ab.part, implies_true, forall_const, true_or, Option.isNone_some, Option.isNone_none, vcXAb25, Tryd.f91, List.toList_toArray, arr4_zero, nat4_set1, nat4_setL, nat4_set0, hx,hpre]))
      refine X_loop (ι := Nat) (fun j => j ≤ i ∧ sm1 m l (l i) j = false) (fun j => i - j) [9, 25, 26, 27, 28, 29, 30, 31, 32, 33, 34, 35]
        (fun j => [(25, .s (.v (.int .i64 (j : Nat))))])
        (fun j => []) 0 (shape_of fun j => ?_) (by decide) ?_ ?_
      · simp only [List.length_cons, List.length_nil, List.map_cons, List.map_nil, List.nodup_cons, List.nodup_nil, List.mem_cons, Nat.reduceAdd, Nat.reduceEqDiff, or_false, not_false_eq_true, forall_eq_or_imp, forall_eq, or_self, Nat.reduceLT, Nat.reduceLeDiff, and_self, List.forall_mem_cons, List.not_mem_nil, false_implies, implies_true, and_true, true_and, vcOAb25]
      · simp -implicitDefEqProofs (maxSteps := 1000000) (disch := first | exact dz | fail) only [vcR, vcT, simprocAttr, Ab.part, implies_true, forall_const, true_or, Option.isNone_some, Option.isNone_none, vcXAb25, Tryd.f91, List.toList_toArray, again_eq]
        try simp
        all_goals rfl
      · intro j us' ⟨hj, hs1⟩
        by_cases hji : j < i
        · have hx' : ∀ {K : TV → HE → Prop}, xext (ctxE Tryd.prog (modEvo 108) w B) (some true) 4 (ad.add (j * 4)) K = K (.agg (nat4 (l j))) .none := fun {K} => hN.nat (by omega)
          have hlj := hl j
          have hmm : msub m (l i) (l j) < 2 ^ 256 := OddM.msub_lt hG
          clear hl hx hpre
          by_cases h0 : msub m (l i) (l j) = 0
          · have e0 : litsEq (lits 4 (wd (msub m (l i) (l j)))) (lits 4 (wd 0)) = true := by rw [h0]; exact litsEq_self _
            have hW : WE m l n = 13 := by unfold WE; rw [sm_hit hji h h0]; rfl
            (repeat' ((first | with_reducible (first | apply XR_append | apply XR_slice | apply XR_cons | apply XR_consG | apply XR_nil | apply cF_pure (by assumption) | apply cF_ev (by assumption) | apply cF_ev (minus_e _ _ _ _ bd bd bd)) | with_reducible (first | apply gRS (by with_unfolding_all rfl) | apply gR (by with_unfolding_all rfl) | apply gS (by with_unfolding_all rfl) | fail) | refine X_of _ ?_ | with_reducible (first | exact ⟨_, rfl⟩ | refine And.intro ?_ ?_ | intro _)) <;> try simp -implicitDefEqProofs (maxSteps := 1000000) (disch := first | exact dz | fail) only [vcR, vcT, simprocAttr, Ab.part, implies_true, forall_const, true_or, Option.isNone_some, Option.isNone_none, vcXAb25, Tryd.f91, List.toList_toArray, arr4_zero, nat4_set1, nat4_setL, nat4_set0, hx',e0]))
            exact gives_err hW (by decide)
          · have e0 : litsEq (lits 4 (wd (msub m (l i) (l j)))) (lits 4 (wd 0)) = false := by rw [litsEq_nat4 hmm (by decide)]; simp [h0]
            (repeat' ((first | with_reducible (first | apply XR_append | apply XR_slice | apply XR_cons | apply XR_consG | apply XR_nil | apply cF_pure (by assumption) | apply cF_ev (by assumption) | apply cF_ev (minus_e _ _ _ _ bd bd bd)) | with_reducible (first | apply gRS (by with_unfolding_all rfl) | apply gR (by with_unfolding_all rfl) | apply gS (by with_unfolding_all rfl) | fail) | refine X_of _ ?_ | with_reducible (first | exact ⟨_, rfl⟩ | refine And.intro ?_ ?_ | intro _)) <;> try simp -implicitDefEqProofs (maxSteps := 1000000) (disch := first | exact dz | fail) only [vcR, vcT, simprocAttr, Ab.part, implies_true, forall_const, true_or, Option.isNone_some, Option.isNone_none, vcXAb25, Tryd.f91, List.toList_toArray, arr4_zero, nat4_set1, nat4_setL, nat4_set0, hx',e0]))
            refine ⟨j + 1, by omega, ?_⟩
            have hs2 : sm1 m l (l i) (j + 1) = false := by show (_ || _) = false; rw [hs1]; simp [h0]
            simp -implicitDefEqProofs (maxSteps := 1000000) (disch := first | exact dz | fail) only [vcR, vcT, simprocAttr, Ab.part, implies_true, forall_const, true_or, Option.isNone_some, Option.isNone_none, vcXAb25, Tryd.f91, List.toList_toArray, again_eq]
            exact ⟨hs2, _, rfl⟩
        · have : j = i := by omega
          subst this
          (repeat' ((first | with_reducible (first | apply XR_append | apply XR_slice | apply XR_cons | apply XR_consG | apply XR_nil | apply cF_pure (by assumption) | apply cF_ev (by assumption) | apply cF_ev (minus_e _ _ _ _ bd bd bd)) | with_reducible (first | apply gRS (by with_unfolding_all rfl) | apply gR (by with_unfolding_all rfl) | apply gS (by with_unfolding_all rfl) | fail) | refine X_of _ ?_ | with_reducible (first | exact ⟨_, rfl⟩ | refine And.intro ?_ ?_ | intro _)) <;> try simp -implicitDefEqProofs (maxSteps := 1000000) (disch := first | exact dz | fail) only [vcR, vcT, simprocAttr, Ab.part, implies_true, forall_const, true_or, Option.isNone_some, Option.isNone_none, vcXAb25, Tryd.f91, List.toList_toArray, arr4_zero, nat4_set1, nat4_setL, nat4_set0]))
          refine ⟨j + 1, by omega, ?_⟩
          have hs2 : sm m l (j + 1) = false := by show (_ || _) = false; rw [hsm, hs1]; rfl
          simp -implicitDefEqProofs (maxSteps := 1000000) (disch := first | exact dz | fail) only [vcR, vcT, simprocAttr, Ab.part, implies_true, forall_const, true_or, Option.isNone_some, Option.isNone_none, vcXAb25, Tryd.f91, List.toList_toArray, again_eq]
          exact ⟨hs2, _, rfl⟩
    · have : i = n := by omega
      subst this
      clear h hi
      (repeat' ((first | with_reducible (first | apply XR_append | apply XR_slice | apply XR_cons | apply XR_consG | apply XR_nil | apply cF_pure (by assumption) | apply cF_ev (by assumption) | apply cF_ev (minus_e _ _ _ _ bd bd bd)) | with_reducible (first | apply gRS (by with_unfolding_all rfl) | apply gR (by with_unfolding_all rfl) | apply gS (by with_unfolding_all rfl) | fail) | refine X_of _ ?_ | with_reducible (first | exact ⟨_, rfl⟩ | refine And.intro ?_ ?_ | intro _)) <;> try simp -implicitDefEqProofs (maxSteps := 1000000) (disch := first | exact dz | fail) only [vcR, vcT, simprocAttr, Ab.part, implies_true, forall_const, true_or, Option.isNone_some, Option.isNone_none, vcXAb25, Tryd.f91, List.toList_toArray, arr4_zero, nat4_set1, nat4_setL, nat4_set0]))
      refine X_loopT (ι := Nat × Nat × List Value) (fun k => k.1 ≤ i ∧ wE m l i k.1 = 0 ∧ (k.1 ≠ 0 → k.1 ≤ k.2.1 ∧ k.2.2.length = (k.2.1 - k.1) * 4)) (fun k => i - k.1) [10, 11, 12, 13, 39, 40, 41, 42, 43, 44, 45, 46, 47, 48, 49, 50, 51, 52, 53, 54, 55, 56]
        (fun k => [(10, rowS 0 k.1 k.2.1), (39, .s (.v (.int .i64 (k.1 : Nat))))])
        (fun k => rowH 24 k.1 (nats k.1 (wgt m l i)) k.2.2) (0, 0, []) ?_ (by decide) ?_ ?_
      · rintro ⟨k, c', sp⟩ ⟨hk, _, _⟩
        refine ⟨by simp, ?_, Nat.zero_le _, ?_⟩
        · simp only [List.forall_mem_cons]
          refine ⟨rowS_ok fun h0 => ?_, trivial, fun x hx => by simp at hx⟩
          rw [rowH_s h0]; exact Nat.zero_lt_one
        · intro b hb x hx
          simp only at hb
          by_cases h0 : k = 0
          · subst h0; rw [rowH_0] at hb; simp at hb
          · rw [rowH_s h0] at hb
            simp only [List.mem_cons, List.not_mem_nil, or_false] at hb
            subst hb
            rcases List.mem_append.1 hx with hx | hx
            · exact nats_ok _ x hx
            · exact vals_ok x hx
      · refine ⟨⟨Nat.zero_le _, rfl, fun h => absurd rfl h⟩, [], ⟨by decide, rfl⟩, ?_, trivial⟩
        simp -implicitDefEqProofs (maxSteps := 1000000) (disch := first | exact dz | fail) only [vcR, vcT, simprocAttr, Ab.part, implies_true, forall_const, true_or, Option.isNone_some, Option.isNone_none, vcXAb25, Tryd.f91, List.toList_toArray, renS_cons,renS_nil,ren_v,rowS_0]
      · rintro ⟨k, c', sp⟩ us ⟨hk, hE, hrow⟩
        simp only at hk hE hrow ⊢
        by_cases hki : k < i
        · obtain ⟨ad, rfl⟩ := hadr (by omega)
          have hw := weight_e kb m (some ad) i c l k hG hl (by omega) hki
          have hszz : sz (ctxE Tryd.prog (modEvo 108) w B).P 24 = 4 := sz_nat
          have hE' : wE m l i (k + 1) = wgE m l i k := if_pos hE
          have hwl : wgt m l i k < 2 ^ 256 := OddM.mod_lt hG
          clear hadr hl
          by_cases hek : wgE m l i k = 0
          · have hne : (wgE m l i k == 0) = true := by rw [hek]; rfl
            rw [hek] at hw hE'
            by_cases h0 : k = 0
            · subst h0
              rw [rowH_0]
              rw [show ((0 : Nat) : Int) = 0 from rfl] at hw
              (repeat' ((first | with_reducible (first | apply XR_append | apply XR_slice | apply XR_cons | apply XR_consG | apply XR_nil | apply cF_pure (by assumption) | apply cF_ev (by assumption) | apply cF_ev (minus_e _ _ _ _ bd bd bd)) | with_reducible (first | apply gRS (by with_unfolding_all rfl) | apply gR (by with_unfolding_all rfl) | apply gS (by with_unfolding_all rfl) | fail) | refine X_of _ ?_ | with_reducible (first | exact ⟨_, rfl⟩ | refine And.intro ?_ ?_ | intro _)) <;> try simp -implicitDefEqProofs (maxSteps := 1000000) (disch := first | exact dz | fail) only [vcR, vcT, simprocAttr, Ab.part, implies_true, forall_const, true_or, Option.isNone_some, Option.isNone_none, vcXAb25, Tryd.f91, List.toList_toArray, arr4_zero, nat4_set1, nat4_setL, nat4_set0, st_bs,xbs_some,hz1,one_set]))
              refine xappend_row (cs := nats 0 (wgt m l i)) (sp := sp) (news_nat hszz rfl) (fun h => absurd rfl h) (by rw [nats_length, Nat.zero_mul]) (by rw [nat4_length, hszz]) (ap_nat _ (by omega)) (by rw [nat4_one]; trivial) (by show ¬ (24 = 108); decide) fun j' c'' sp' H' h1 h2 h3 h4 h5 h6 => ?_
              clear h4 h5 h6
              (repeat' ((first | with_reducible (first | apply XR_append | apply XR_slice | apply XR_cons | apply XR_consG | apply XR_nil | apply cF_pure (by assumption) | apply cF_ev (by assumption) | apply cF_ev (minus_e _ _ _ _ bd bd bd)) | with_reducible (first | apply gRS (by with_unfolding_all rfl) | apply gR (by with_unfolding_all rfl) | apply gS (by with_unfolding_all rfl) | fail) | refine X_of _ ?_ | with_reducible (first | exact ⟨_, rfl⟩ | refine And.intro ?_ ?_ | intro _)) <;> try simp -implicitDefEqProofs (maxSteps := 1000000) (disch := first | exact dz | fail) only [vcR, vcT, simprocAttr, Ab.part, implies_true, forall_const, true_or, Option.isNone_some, Option.isNone_none, vcXAb25, Tryd.f91, List.toList_toArray, arr4_zero, nat4_set1, nat4_setL, nat4_set0]))
              refine ⟨(0 + 1, c'', sp'), by simp; omega, ⟨by simp; omega, hE', fun _ => ⟨h1, by rw [hszz] at h2; exact h2⟩⟩, [j'], ⟨by simp, rfl⟩, ?_, ⟨?_, trivial⟩⟩
              · have e1 : (rowS 0 (0 + 1) c'').ren (lk [j']) = .s (.sl j' 0 (0 + 1) c'') := by rw [ren_rowS, rowS_s (by omega)]; rfl
                simp -implicitDefEqProofs (maxSteps := 1000000) (disch := first | exact dz | fail) only [vcR, vcT, simprocAttr, Ab.part, implies_true, forall_const, true_or, Option.isNone_some, Option.isNone_none, vcXAb25, Tryd.f91, List.toList_toArray, renS_cons,renS_nil,ren_v,e1]
              · rw [h3, nats_snoc]
            · obtain ⟨hkc, hsp⟩ := hrow h0
              rw [rowH_s h0]
              (repeat' ((first | with_reducible (first | apply XR_append | apply XR_slice | apply XR_cons | apply XR_consG | apply XR_nil | apply cF_pure (by assumption) | apply cF_ev (by assumption) | apply cF_ev (minus_e _ _ _ _ bd bd bd)) | with_reducible (first | apply gRS (by with_unfolding_all rfl) | apply gR (by with_unfolding_all rfl) | apply gS (by with_unfolding_all rfl) | fail) | refine X_of _ ?_ | with_reducible (first | exact ⟨_, rfl⟩ | refine And.intro ?_ ?_ | intro _)) <;> try simp -implicitDefEqProofs (maxSteps := 1000000) (disch := first | exact dz | fail) only [vcR, vcT, simprocAttr, Ab.part, implies_true, forall_const, true_or, Option.isNone_some, Option.isNone_none, vcXAb25, Tryd.f91, List.toList_toArray, arr4_zero, nat4_set1, nat4_setL, nat4_set0, st_bs,xbs_some,hz1,one_set]))
              refine xappend_row (cs := nats k (wgt m l i)) (sp := sp) (news_nat hszz rfl) (fun _ => ⟨rfl, hkc, by rw [hszz]; exact hsp⟩) (by rw [nats_length, hszz, Nat.mul_comm]) (by rw [nat4_length, hszz]) (ap_nat _ (by omega)) (by rw [nat4_one]; trivial) (by show ¬ (24 = 108); decide) fun j' c'' sp' H' h1 h2 h3 h4 h5 h6 => ?_
              clear h4 h5 h6
              (repeat' ((first | with_reducible (first | apply XR_append | apply XR_slice | apply XR_cons | apply XR_consG | apply XR_nil | apply cF_pure (by assumption) | apply cF_ev (by assumption) | apply cF_ev (minus_e _ _ _ _ bd bd bd)) | with_reducible (first | apply gRS (by with_unfolding_all rfl) | apply gR (by with_unfolding_all rfl) | apply gS (by with_unfolding_all rfl) | fail) | refine X_of _ ?_ | with_reducible (first | exact ⟨_, rfl⟩ | refine And.intro ?_ ?_ | intro _)) <;> try simp -implicitDefEqProofs (maxSteps := 1000000) (disch := first | exact dz | fail) only [vcR, vcT, simprocAttr, Ab.part, implies_true, forall_const, true_or, Option.isNone_some, Option.isNone_none, vcXAb25, Tryd.f91, List.toList_toArray, arr4_zero, nat4_set1, nat4_setL, nat4_set0]))
              refine ⟨(k + 1, c'', sp'), by simp; omega, ⟨by simp; omega, hE', fun _ => ⟨h1, by rw [hszz] at h2; exact h2⟩⟩, [j'], ⟨by simp, rfl⟩, ?_, ⟨?_, trivial⟩⟩
              · have e1 : (rowS 0 (k + 1) c'').ren (lk [j']) = .s (.sl j' 0 (k + 1) c'') := by rw [ren_rowS, rowS_s (by omega)]; rfl
                simp -implicitDefEqProofs (maxSteps := 1000000) (disch := first | exact dz | fail) only [vcR, vcT, simprocAttr, Ab.part, implies_true, forall_const, true_or, Option.isNone_some, Option.isNone_none, vcXAb25, Tryd.f91, List.toList_toArray, renS_cons,renS_nil,ren_v,e1]
              · rw [h3, nats_snoc]
          · have hne : (wgE m l i k != 0) = true := by simp [hek]
            have hW : WE m l i = wgE m l i k := by
              unfold WE
              rw [hsm, wE_stuck (i := k + 1) (by rw [hE']; exact hek) i (by omega), hE']
              rfl
            by_cases h0 : k = 0
            · subst h0
              rw [rowH_0]
              rw [show ((0 : Nat) : Int) = 0 from rfl] at hw
              (repeat' ((first | with_reducible (first | apply XR_append | apply XR_slice | apply XR_cons | apply XR_consG | apply XR_nil | apply cF_pure (by assumption) | apply cF_ev (by assumption) | apply cF_ev (minus_e _ _ _ _ bd bd bd)) | with_reducible (first | apply gRS (by with_unfolding_all rfl) | apply gR (by with_unfolding_all rfl) | apply gS (by with_unfolding_all rfl) | fail) | refine X_of _ ?_ | with_reducible (first | exact ⟨_, rfl⟩ | refine And.intro ?_ ?_ | intro _)) <;> try simp -implicitDefEqProofs (maxSteps := 1000000) (disch := first | exact dz | fail) only [vcR, vcT, simprocAttr, Ab.part, implies_true, forall_const, true_or, Option.isNone_some, Option.isNone_none, vcXAb25, Tryd.f91, List.toList_toArray, arr4_zero, nat4_set1, nat4_setL, nat4_set0, hne]))
              exact gives_err hW hek
            · rw [rowH_s h0]
              (repeat' ((first | with_reducible (first | apply XR_append | apply XR_slice | apply XR_cons | apply XR_consG | apply XR_nil | apply cF_pure (by assumption) | apply cF_ev (by assumption) | apply cF_ev (minus_e _ _ _ _ bd bd bd)) | with_reducible (first | apply gRS (by with_unfolding_all rfl) | apply gR (by with_unfolding_all rfl) | apply gS (by with_unfolding_all rfl) | fail) | refine X_of _ ?_ | with_reducible (first | exact ⟨_, rfl⟩ | refine And.intro ?_ ?_ | intro _)) <;> try simp -implicitDefEqProofs (maxSteps := 1000000) (disch := first | exact dz | fail) only [vcR, vcT, simprocAttr, Ab.part, implies_true, forall_const, true_or, Option.isNone_some, Option.isNone_none, vcXAb25, Tryd.f91, List.toList_toArray, arr4_zero, nat4_set1, nat4_setL, nat4_set0, hne]))
              exact gives_err hW hek
        · have : k = i := by omega
          subst this
          have hW : WE m l k = 0 := by
            unfold WE
            rw [hsm, hE]
            rfl
          clear hadr hN hl
          by_cases h0 : k = 0
          · subst h0
            rw [rowH_0]
            (repeat' ((first | with_reducible (first | apply XR_append | apply XR_slice | apply XR_cons | apply XR_consG | apply XR_nil | apply cF_pure (by assumption) | apply cF_ev (by assumption) | apply cF_ev (minus_e _ _ _ _ bd bd bd)) | with_reducible (first | apply gRS (by with_unfolding_all rfl) | apply gR (by with_unfolding_all rfl) | apply gS (by with_unfolding_all rfl) | fail) | refine X_of _ ?_ | with_reducible (first | exact ⟨_, rfl⟩ | refine And.intro ?_ ?_ | intro _)) <;> try simp -implicitDefEqProofs (maxSteps := 1000000) (disch := first | exact dz | fail) only [vcR, vcT, simprocAttr, Ab.part, implies_true, forall_const, true_or, Option.isNone_some, Option.isNone_none, vcXAb25, Tryd.f91, List.toList_toArray, arr4_zero, nat4_set1, nat4_setL, nat4_set0, rowS_0]))
            exact gives_ok (j := 0) (c := 0) (sp := []) hW (fun h => absurd rfl h) (fun h => absurd rfl h)
          · rw [rowH_s h0]
            (repeat' ((first | with_reducible (first | apply XR_append | apply XR_slice | apply XR_cons | apply XR_consG | apply XR_nil | apply cF_pure (by assumption) | apply cF_ev (by assumption) | apply cF_ev (minus_e _ _ _ _ bd bd bd)) | with_reducible (first | apply gRS (by with_unfolding_all rfl) | apply gR (by with_unfolding_all rfl) | apply gS (by with_unfolding_all rfl) | fail) | refine X_of _ ?_ | with_reducible (first | exact ⟨_, rfl⟩ | refine And.intro ?_ ?_ | intro _)) <;> try simp -implicitDefEqProofs (maxSteps := 1000000) (disch := first | exact dz | fail) only [vcR, vcT, simprocAttr, Ab.part, implies_true, forall_const, true_or, Option.isNone_some, Option.isNone_none, vcXAb25, Tryd.f91, List.toList_toArray, arr4_zero, nat4_set1, nat4_setL, nat4_set0, rowS_s h0]))
            have hg := gives_ok (j := 0) (H := [⟨24, nats k (wgt m l k) ++ sp.map .v⟩]) hW hrow fun _ => rfl
            rw [rowV_s h0] at hg
            exact hg
theorem row_ok {e n n0 : Nat} {cs : List SV} {sp : List Value} (h : ∀ x ∈ cs, x.ok n0) : ∀ b ∈ rowH e n cs sp, ∀ x ∈ b.cs, x.ok n0 := by
  intro b hb x hx
  by_cases h0 : n = 0
  · subst h0; rw [rowH_0] at hb; simp at hb
  · rw [rowH_s h0] at hb
    simp only [List.mem_cons, List.not_mem_nil, or_false] at hb
    subst hb
    rcases List.mem_append.1 hx with hx | hx
    · exact h x hx
    · exact vals_ok x hx
theorem atzero_e (kb m : Nat) (x : Option Addr) (n c : Nat) (l : Nat → Nat) (hG : OddM m) (hl : ∀ i, l i < 2 ^ 256) (hn : n ≤ 100) :
    EvC (modEvo 108) Tryd.prog 71 [.s (.v (.pointer (some ⟨kb, 0, none⟩))), .s (.v (.slice x n c))] (fun B w => isMod 108 kb m B w ∧ natsAt (modEvo 108) x (2 * n) l B w)
      (.tup [.agg (nat4 (atz m l n)), .s (.v (.int .i64 (WE m (px l) n)))]) := by
  (refine evC_of Tryd.func71 rfl (by simp only [List.length_cons, List.length_nil, List.map_cons, List.map_nil, List.nodup_cons, List.nodup_nil, List.mem_cons, Nat.reduceAdd, Nat.reduceEqDiff, or_false, not_false_eq_true, forall_eq_or_imp, forall_eq, or_self, Nat.reduceLT, Nat.reduceLeDiff, and_self, List.forall_mem_cons, List.not_mem_nil, false_implies, implies_true, and_true, true_and, vcOAb25]) (by simp only [List.length_cons, List.length_nil, List.map_cons, List.map_nil, List.nodup_cons, List.nodup_nil, List.mem_cons, Nat.reduceAdd, Nat.reduceEqDiff, or_false, not_false_eq_true, forall_eq_or_imp, forall_eq, or_self, Nat.reduceLT, Nat.reduceLeDiff, and_self, List.forall_mem_cons, List.not_mem_nil, false_implies, implies_true, and_true, true_and, vcOAb25]) fun B w hpre => ?_; simp only [List.length_cons, List.length_nil, Tryd.ntmps71, Nat.reduceAdd, Nat.reduceSub, List.replicate_succ, List.replicate_zero, List.cons_append, List.nil_append])
  have hM : Kn (ctxE Tryd.prog (modEvo 108) w B) (isMod 108 kb m) := Kn.entry (isMod_stays _ kb m) hpre.1
  have hN : Kn (ctxE Tryd.prog (modEvo 108) w B) (natsAt (modEvo 108) x (2 * n) l) := Kn.entry (natsAt_stays _ x (2 * n) l) hpre.2
  have hx0 := hpre.2
  clear hpre
  have hz1 : slice0 Tryd.prog 24 1 = some (arr 4 fun _ => 0) := by kernel_rfl
  have hszz : sz (ctxE Tryd.prog (modEvo 108) w B).P 24 = 4 := sz_nat
  have hadr : n ≠ 0 → ∃ ad, x = some ad := fun h => by
    rcases hx0 with h0 | ⟨ad, h0, _⟩
    · omega
    · exact ⟨ad, h0⟩
  clear hx0
  (repeat' ((first | with_reducible (first | apply XQ_cons | apply XQ_consG | apply XQ_nil | apply XR_append | apply XR_cons | apply XR_consG | apply XR_nil | apply cF_pure (by assumption) | apply cV_pure (by assumption) | apply cF_ev (by assumption) | apply cV_ev (by assumption) | apply cF_ev (times_e _ _ _ _ bd bd bd) | apply cV_ev (times_e _ _ _ _ bd bd bd)) | with_reducible (first | apply gRS (by with_unfolding_all rfl) | apply gR (by with_unfolding_all rfl) | apply gS (by with_unfolding_all rfl) | fail) | (with_reducible apply X_drawC (id := 13) 9; (next => (kernel_rfl)); (next => (kernel_rfl))) | refine X_of _ ?_ | with_reducible (first | exact ⟨_, rfl⟩ | refine And.intro ?_ ?_ | intro _)) <;> try simp -implicitDefEqProofs (maxSteps := 1000000) (disch := first | exact dz | fail) only [vcR, vcT, simprocAttr, Ab.part, implies_true, forall_const, true_or, Option.isNone_some, Option.isNone_none, vcXAb25, Tryd.f71, List.toList_toArray, arr4_zero, nat4_set1, nat4_setL, nat4_set0]))
  refine X_loopT (ι := Nat × Nat × List Value) (fun k => k.1 ≤ n ∧ (k.1 ≠ 0 → k.1 ≤ k.2.1 ∧ k.2.2.length = (k.2.1 - k.1) * 4)) (fun k => n - k.1) [6, 9, 16, 17, 18, 19, 20, 21, 22, 23, 24, 25]
    (fun k => [(6, rowS 1 k.1 k.2.1), (16, .s (.v (.int .i64 (k.1 : Nat))))])
    (fun k => ⟨24, nat4 0⟩ :: rowH 24 k.1 (nats k.1 (px l)) k.2.2) (0, 0, []) ?_ (by decide) ?_ ?_
  · rintro ⟨k, c', sp⟩ ⟨hk, _⟩
    refine ⟨by simp, ?_, by simp, ?_⟩
    · simp only [List.forall_mem_cons]
      refine ⟨rowS_ok fun h0 => ?_, trivial, fun x hx => by simp at hx⟩
      rw [rowH_s h0]; exact Nat.lt_succ_self 1
    · simp only [List.forall_mem_cons]
      exact ⟨arr_ok _, row_ok (nats_ok _)⟩
  · refine ⟨⟨Nat.zero_le _, fun h => absurd rfl h⟩, [0], ⟨by decide, rfl⟩, ?_, rfl, trivial⟩
    simp -implicitDefEqProofs (maxSteps := 1000000) (disch := first | exact dz | fail) only [vcR, vcT, simprocAttr, Ab.part, implies_true, forall_const, true_or, Option.isNone_some, Option.isNone_none, vcXAb25, Tryd.f71, List.toList_toArray, renS_cons,renS_nil,ren_v,rowS_0]
  · rintro ⟨k, c', sp⟩ us ⟨hk, hrow⟩
    simp only at hk hrow ⊢
    by_cases hki : k < n
    · obtain ⟨ad, rfl⟩ := hadr (by omega)
      have hx : ∀ {K : TV → HE → Prop}, xext (ctxE Tryd.prog (modEvo 108) w B) (some true) 8 (ad.add (k * 8)) K = K (.agg (pt (l (2 * k)) (l (2 * k + 1)))) .none := fun {K} => hN.pt hki
      clear hadr hl
      by_cases h0 : k = 0
      · subst h0
        rw [rowH_0]
        (repeat' ((first | with_reducible (first | apply XQ_cons | apply XQ_consG | apply XQ_nil | apply XR_append | apply XR_cons | apply XR_consG | apply XR_nil | apply cF_pure (by assumption) | apply cV_pure (by assumption) | apply cF_ev (by assumption) | apply cV_ev (by assumption) | apply cF_ev (times_e _ _ _ _ bd bd bd) | apply cV_ev (times_e _ _ _ _ bd bd bd)) | with_reducible (first | apply gRS (by with_unfolding_all rfl) | apply gR (by with_unfolding_all rfl) | apply gS (by with_unfolding_all rfl) | fail) | (with_reducible apply X_drawC (id := 13) 9; (next => (kernel_rfl)); (next => (kernel_rfl))) | refine X_of _ ?_ | with_reducible (first | exact ⟨_, rfl⟩ | refine And.intro ?_ ?_ | intro _)) <;> try simp -implicitDefEqProofs (maxSteps := 1000000) (disch := first | exact dz | fail) only [vcR, vcT, simprocAttr, Ab.part, implies_true, forall_const, true_or, Option.isNone_some, Option.isNone_none, vcXAb25, Tryd.f71, List.toList_toArray, arr4_zero, nat4_set1, nat4_setL, nat4_set0, st_bs,xbs_some,hz1,one_set,hx]))
        refine xappend_row (cs := nats 0 (px l)) (sp := sp) (news_nat hszz rfl) (fun h => absurd rfl h) (by rw [nats_length, Nat.zero_mul]) (by rw [nat4_length, hszz]) (ap_nat _ (by omega)) (by rw [nat4_one]; trivial) (by first | exact fun h => h | (show ¬ (24 = 108); decide)) fun j' c'' sp' H' h1 h2 h3 h4 h5 h6 => ?_
        have hj0 : j' ≠ 0 := by
          rcases h4 with ⟨h, _⟩ | h
          · exact absurd rfl h
          · rw [h]; simp
        have hH0 := h5 0 (by simp) (by decide)
        clear h4 h5 h6
        (repeat' ((first | with_reducible (first | apply XQ_cons | apply XQ_consG | apply XQ_nil | apply XR_append | apply XR_cons | apply XR_consG | apply XR_nil | apply cF_pure (by assumption) | apply cV_pure (by assumption) | apply cF_ev (by assumption) | apply cV_ev (by assumption) | apply cF_ev (times_e _ _ _ _ bd bd bd) | apply cV_ev (times_e _ _ _ _ bd bd bd)) | with_reducible (first | apply gRS (by with_unfolding_all rfl) | apply gR (by with_unfolding_all rfl) | apply gS (by with_unfolding_all rfl) | fail) | (with_reducible apply X_drawC (id := 13) 9; (next => (kernel_rfl)); (next => (kernel_rfl))) | refine X_of _ ?_ | with_reducible (first | exact ⟨_, rfl⟩ | refine And.intro ?_ ?_ | intro _)) <;> try simp -implicitDefEqProofs (maxSteps := 1000000) (disch := first | exact dz | fail) only [vcR, vcT, simprocAttr, Ab.part, implies_true, forall_const, true_or, Option.isNone_some, Option.isNone_none, vcXAb25, Tryd.f71, List.toList_toArray, arr4_zero, nat4_set1, nat4_setL, nat4_set0]))
        refine ⟨(0 + 1, c'', sp'), by simp; omega, ⟨by simp; omega, fun _ => ⟨h1, by rw [hszz] at h2; exact h2⟩⟩, [0, j'], ⟨by simp [Ne.symm hj0], rfl⟩, ?_, ⟨hH0.trans rfl, ?_, trivial⟩⟩
        · have e1 : (rowS 1 (0 + 1) c'').ren (lk [0, j']) = .s (.sl j' 0 (0 + 1) c'') := by rw [ren_rowS, rowS_s (by omega)]; rfl
          simp -implicitDefEqProofs (maxSteps := 1000000) (disch := first | exact dz | fail) only [vcR, vcT, simprocAttr, Ab.part, implies_true, forall_const, true_or, Option.isNone_some, Option.isNone_none, vcXAb25, Tryd.f71, List.toList_toArray, renS_cons,renS_nil,ren_v,e1]
        · rw [h3]
          exact congrArg (fun x => some (AB.mk _ (x ++ _))) (nats_snoc (l := px l))
      · obtain ⟨hkc, hsp⟩ := hrow h0
        rw [rowH_s h0]
        (repeat' ((first | with_reducible (first | apply XQ_cons | apply XQ_consG | apply XQ_nil | apply XR_append | apply XR_cons | apply XR_consG | apply XR_nil | apply cF_pure (by assumption) | apply cV_pure (by assumption) | apply cF_ev (by assumption) | apply cV_ev (by assumption) | apply cF_ev (times_e _ _ _ _ bd bd bd) | apply cV_ev (times_e _ _ _ _ bd bd bd)) | with_reducible (first | apply gRS (by with_unfolding_all rfl) | apply gR (by with_unfolding_all rfl) | apply gS (by with_unfolding_all rfl) | fail) | (with_reducible apply X_drawC (id := 13) 9; (next => (kernel_rfl)); (next => (kernel_rfl))) | refine X_of _ ?_ | with_reducible (first | exact ⟨_, rfl⟩ | refine And.intro ?_ ?_ | intro _)) <;> try simp -implicitDefEqProofs (maxSteps := 1000000) (disch := first | exact dz | fail) only [vcR, vcT, simprocAttr, Ab.part, implies_true, forall_const, true_or, Option.isNone_some, Option.isNone_none, vcXAb25, Tryd.f71, List.toList_toArray, arr4_zero, nat4_set1, nat4_setL, nat4_set0, st_bs,xbs_some,hz1,one_set,hx]))
        refine xappend_row (cs := nats k (px l)) (sp := sp) (news_nat hszz rfl) (fun _ => ⟨rfl, hkc, by rw [hszz]; exact hsp⟩) (by rw [nats_length, hszz, Nat.mul_comm]) (by rw [nat4_length, hszz]) (ap_nat _ (by omega)) (by rw [nat4_one]; trivial) (by first | exact fun h => h | (show ¬ (24 = 108); decide)) fun j' c'' sp' H' h1 h2 h3 h4 h5 h6 => ?_
        have hj0 : j' ≠ 0 := by
          rcases h4 with ⟨_, h⟩ | h
          · omega
          · rw [h]; simp
        have hH0 := h5 0 (by simp) (by decide)
        clear h4 h5 h6
        (repeat' ((first | with_reducible (first | apply XQ_cons | apply XQ_consG | apply XQ_nil | apply XR_append | apply XR_cons | apply XR_consG | apply XR_nil | apply cF_pure (by assumption) | apply cV_pure (by assumption) | apply cF_ev (by assumption) | apply cV_ev (by assumption) | apply cF_ev (times_e _ _ _ _ bd bd bd) | apply cV_ev (times_e _ _ _ _ bd bd bd)) | with_reducible (first | apply gRS (by with_unfolding_all rfl) | apply gR (by with_unfolding_all rfl) | apply gS (by with_unfolding_all rfl) | fail) | (with_reducible apply X_drawC (id := 13) 9; (next => (kernel_rfl)); (next => (kernel_rfl))) | refine X_of _ ?_ | with_reducible (first | exact ⟨_, rfl⟩ | refine And.intro ?_ ?_ | intro _)) <;> try simp -implicitDefEqProofs (maxSteps := 1000000) (disch := first | exact dz | fail) only [vcR, vcT, simprocAttr, Ab.part, implies_true, forall_const, true_or, Option.isNone_some, Option.isNone_none, vcXAb25, Tryd.f71, List.toList_toArray, arr4_zero, nat4_set1, nat4_setL, nat4_set0]))
        refine ⟨(k + 1, c'', sp'), by simp; omega, ⟨by simp; omega, fun _ => ⟨h1, by rw [hszz] at h2; exact h2⟩⟩, [0, j'], ⟨by simp [Ne.symm hj0], rfl⟩, ?_, ⟨hH0.trans rfl, ?_, trivial⟩⟩
        · have e1 : (rowS 1 (k + 1) c'').ren (lk [0, j']) = .s (.sl j' 0 (k + 1) c'') := by rw [ren_rowS, rowS_s (by omega)]; rfl
          simp -implicitDefEqProofs (maxSteps := 1000000) (disch := first | exact dz | fail) only [vcR, vcT, simprocAttr, Ab.part, implies_true, forall_const, true_or, Option.isNone_some, Option.isNone_none, vcXAb25, Tryd.f71, List.toList_toArray, renS_cons,renS_nil,ren_v,e1]
        · rw [h3]
          exact congrArg (fun x => some (AB.mk _ (x ++ _))) (nats_snoc (l := px l))
    · have : n = k := by omega
      subst this
      clear hki hk
      by_cases h0 : n = 0
      · subst h0
        rw [rowH_0]
        have hWE : WE m (px l) 0 = 0 := rfl
        have hA : atz m l 0 = 0 := by rw [atz_0 hWE]; rfl
        clear hrow hN hadr
        (repeat' ((first | with_reducible (first | apply XQ_cons | apply XQ_consG | apply XQ_nil | apply XR_append | apply XR_cons | apply XR_consG | apply XR_nil | apply cF_pure (by assumption) | apply cV_pure (by assumption) | apply cF_ev (by assumption) | apply cV_ev (by assumption) | apply cF_ev (times_e _ _ _ _ bd bd bd) | apply cV_ev (times_e _ _ _ _ bd bd bd)) | with_reducible (first | apply gRS (by with_unfolding_all rfl) | apply gR (by with_unfolding_all rfl) | apply gS (by with_unfolding_all rfl) | fail) | (with_reducible apply X_drawC (id := 13) 9; (next => (kernel_rfl)); (next => (kernel_rfl))) | refine X_of _ ?_ | with_reducible (first | exact ⟨_, rfl⟩ | refine And.intro ?_ ?_ | intro _)) <;> try simp -implicitDefEqProofs (maxSteps := 1000000) (disch := first | exact dz | fail) only [vcR, vcT, simprocAttr, Ab.part, implies_true, forall_const, true_or, Option.isNone_some, Option.isNone_none, vcXAb25, Tryd.f71, List.toList_toArray, arr4_zero, nat4_set1, nat4_setL, nat4_set0, rowS_0]))
        refine xcall_evn (by kernel_rfl) (fun β w' hR => ⟨_, weights_n kb m none 0 0 (px l) hG (fun i => hl _) (by decide) (Nat.le_refl 0), hM w' hR.fr.to, .inl rfl⟩) fun v H' hv => ?_
        rcases hv with ⟨hne, rfl, rfl⟩ | ⟨hz, c2, sp2, hc2, rfl, rfl⟩
        · exact absurd rfl hne
        · rw [rowV_0, rowH_0, hA, hWE]
          have hS := sum_e kb m none 0 0 (fun _ => 0) hG (fun _ => by decide) (by decide)
          have hN0 : Kn (ctxE Tryd.prog (modEvo 108) w B) (natsAt (modEvo 108) none 0 fun _ => 0) := fun _ _ => .inl rfl
          (repeat' ((first | with_reducible (first | apply XQ_cons | apply XQ_consG | apply XQ_nil | apply XR_append | apply XR_cons | apply XR_consG | apply XR_nil | apply cF_pure (by assumption) | apply cV_pure (by assumption) | apply cF_ev (by assumption) | apply cV_ev (by assumption) | apply cF_ev (times_e _ _ _ _ bd bd bd) | apply cV_ev (times_e _ _ _ _ bd bd bd)) | with_reducible (first | apply gRS (by with_unfolding_all rfl) | apply gR (by with_unfolding_all rfl) | apply gS (by with_unfolding_all rfl) | fail) | (with_reducible apply X_drawC (id := 13) 9; (next => (kernel_rfl)); (next => (kernel_rfl))) | refine X_of _ ?_ | with_reducible (first | exact ⟨_, rfl⟩ | refine And.intro ?_ ?_ | intro _)) <;> try simp -implicitDefEqProofs (maxSteps := 1000000) (disch := first | exact dz | fail) only [vcR, vcT, simprocAttr, Ab.part, implies_true, forall_const, true_or, Option.isNone_some, Option.isNone_none, vcXAb25, Tryd.f71, List.toList_toArray, arr4_zero, nat4_set1, nat4_setL, nat4_set0, List.append_nil]))
          refine X_loop (ι := Unit) (fun _ => True) (fun _ => 0) [12, 13, 38, 39, 40, 41, 42, 43, 44, 45, 46, 47, 48, 49, 50, 51, 52, 53, 54]
            (fun _ => [(38, .s (.v (.int .i64 0)))])
            (fun _ => []) () (shape_of fun _ => ?_) (by decide) ?_ ?_
          · simp only [List.length_cons, List.length_nil, List.map_cons, List.map_nil, List.nodup_cons, List.nodup_nil, List.mem_cons, Nat.reduceAdd, Nat.reduceEqDiff, or_false, not_false_eq_true, forall_eq_or_imp, forall_eq, or_self, Nat.reduceLT, Nat.reduceLeDiff, and_self, List.forall_mem_cons, List.not_mem_nil, false_implies, implies_true, and_true, true_and, vcOAb25]
          · simp -implicitDefEqProofs (maxSteps := 1000000) (disch := first | exact dz | fail) only [vcR, vcT, simprocAttr, Ab.part, implies_true, forall_const, true_or, Option.isNone_some, Option.isNone_none, vcXAb25, Tryd.f71, List.toList_toArray, again_eq]
            try simp
          · intro _ us _
            (repeat' ((first | with_reducible (first | apply XQ_cons | apply XQ_consG | apply XQ_nil | apply XR_append | apply XR_cons | apply XR_consG | apply XR_nil | apply cF_pure (by assumption) | apply cV_pure (by assumption) | apply cF_ev (by assumption) | apply cV_ev (by assumption) | apply cF_ev (times_e _ _ _ _ bd bd bd) | apply cV_ev (times_e _ _ _ _ bd bd bd)) | with_reducible (first | apply gRS (by with_unfolding_all rfl) | apply gR (by with_unfolding_all rfl) | apply gS (by with_unfolding_all rfl) | fail) | (with_reducible apply X_drawC (id := 13) 9; (next => (kernel_rfl)); (next => (kernel_rfl))) | refine X_of _ ?_ | with_reducible (first | exact ⟨_, rfl⟩ | refine And.intro ?_ ?_ | intro _)) <;> try simp -implicitDefEqProofs (maxSteps := 1000000) (disch := first | exact dz | fail) only [vcR, vcT, simprocAttr, Ab.part, implies_true, forall_const, true_or, Option.isNone_some, Option.isNone_none, vcXAb25, Tryd.f71, List.toList_toArray, arr4_zero, nat4_set1, nat4_setL, nat4_set0, sumM_0]))
      · obtain ⟨hkc, hsp⟩ := hrow h0
        obtain ⟨ad, rfl⟩ := hadr h0
        clear hrow hadr
        rw [rowH_s h0]
        (repeat' ((first | with_reducible (first | apply XQ_cons | apply XQ_consG | apply XQ_nil | apply XR_append | apply XR_cons | apply XR_consG | apply XR_nil | apply cF_pure (by assumption) | apply cV_pure (by assumption) | apply cF_ev (by assumption) | apply cV_ev (by assumption) | apply cF_ev (times_e _ _ _ _ bd bd bd) | apply cV_ev (times_e _ _ _ _ bd bd bd)) | with_reducible (first | apply gRS (by with_unfolding_all rfl) | apply gR (by with_unfolding_all rfl) | apply gS (by with_unfolding_all rfl) | fail) | (with_reducible apply X_drawC (id := 13) 9; (next => (kernel_rfl)); (next => (kernel_rfl))) | refine X_of _ ?_ | with_reducible (first | exact ⟨_, rfl⟩ | refine And.intro ?_ ?_ | intro _)) <;> try simp -implicitDefEqProofs (maxSteps := 1000000) (disch := first | exact dz | fail) only [vcR, vcT, simprocAttr, Ab.part, implies_true, forall_const, true_or, Option.isNone_some, Option.isNone_none, vcXAb25, Tryd.f71, List.toList_toArray, arr4_zero, nat4_set1, nat4_setL, nat4_set0, rowS_s h0]))
        refine xcall_evn (by kernel_rfl) (fun β w' hR => ⟨_, weights_n kb m (some ⟨β 1, 0, none⟩) n c' (px l) hG (fun i => hl _) hn hkc, hM w' hR.fr.to, natsAt_own hR rfl (by decide)⟩) fun v H' hv => ?_
        rcases hv with ⟨hne, rfl, rfl⟩ | ⟨hz, c2, sp2, hc2, rfl, rfl⟩
        · have hb : (WE m (px l) n != 0) = true := by simp [hne]
          have hA := atz_e hne
          rw [hA]
          (repeat' ((first | with_reducible (first | apply XQ_cons | apply XQ_consG | apply XQ_nil | apply XR_append | apply XR_cons | apply XR_consG | apply XR_nil | apply cF_pure (by assumption) | apply cV_pure (by assumption) | apply cF_ev (by assumption) | apply cV_ev (by assumption) | apply cF_ev (times_e _ _ _ _ bd bd bd) | apply cV_ev (times_e _ _ _ _ bd bd bd)) | with_reducible (first | apply gRS (by with_unfolding_all rfl) | apply gR (by with_unfolding_all rfl) | apply gS (by with_unfolding_all rfl) | fail) | (with_reducible apply X_drawC (id := 13) 9; (next => (kernel_rfl)); (next => (kernel_rfl))) | refine X_of _ ?_ | with_reducible (first | exact ⟨_, rfl⟩ | refine And.intro ?_ ?_ | intro _)) <;> try simp -implicitDefEqProofs (maxSteps := 1000000) (disch := first | exact dz | fail) only [vcR, vcT, simprocAttr, Ab.part, implies_true, forall_const, true_or, Option.isNone_some, Option.isNone_none, vcXAb25, Tryd.f71, List.toList_toArray, arr4_zero, nat4_set1, nat4_setL, nat4_set0, List.append_nil,hb]))
        · have hA := atz_0 hz
          rw [hA, hz]
          rw [rowV_s h0, rowH_s h0]
          (repeat' ((first | with_reducible (first | apply XQ_cons | apply XQ_consG | apply XQ_nil | apply XR_append | apply XR_cons | apply XR_consG | apply XR_nil | apply cF_pure (by assumption) | apply cV_pure (by assumption) | apply cF_ev (by assumption) | apply cV_ev (by assumption) | apply cF_ev (times_e _ _ _ _ bd bd bd) | apply cV_ev (times_e _ _ _ _ bd bd bd)) | with_reducible (first | apply gRS (by with_unfolding_all rfl) | apply gR (by with_unfolding_all rfl) | apply gS (by with_unfolding_all rfl) | fail) | (with_reducible apply X_drawC (id := 13) 9; (next => (kernel_rfl)); (next => (kernel_rfl))) | refine X_of _ ?_ | with_reducible (first | exact ⟨_, rfl⟩ | refine And.intro ?_ ?_ | intro _)) <;> try simp -implicitDefEqProofs (maxSteps := 1000000) (disch := first | exact dz | fail) only [vcR, vcT, simprocAttr, Ab.part, implies_true, forall_const, true_or, Option.isNone_some, Option.isNone_none, vcXAb25, Tryd.f71, List.toList_toArray, arr4_zero, nat4_set1, nat4_setL, nat4_set0]))
          rw [XL_eq]
          refine X_rebase (modEvo 108) B [0] (by decide) (by simp) rfl (.inl ⟨rfl, rfl⟩) (fun _ h => h) (by
            intro i hi b hb
            simp only [List.mem_cons, List.not_mem_nil, or_false] at hi
            subst hi
            injection hb with hb
            subst hb
            show ¬ (24 = 108)
            decide) fun β w1 hR => ?_
          rw [← XL_eq]
          have hM1 : Kn ((ctxE Tryd.prog (modEvo 108) w B).after (modEvo 108) B w1 β [0]) (isMod 108 kb m) := hM.after (L := [0]) hR (by simp)
          have hN1 : Kn ((ctxE Tryd.prog (modEvo 108) w B).after (modEvo 108) B w1 β [0]) (natsAt (modEvo 108) (some ad) (2 * n) l) := hN.after (L := [0]) hR (by simp)
          have hW1 : Kn ((ctxE Tryd.prog (modEvo 108) w B).after (modEvo 108) B w1 β [0]) (natsAt (modEvo 108) (some ⟨β 2, 0, none⟩) n (wgt m (px l) n)) := natsAt_gone hR rfl (by simp) (by simp) (by decide)
          clear hR hN hkc hsp hc2 hszz
          have hszz : sz ((ctxE Tryd.prog (modEvo 108) w B).after (modEvo 108) B w1 β [0]).P 24 = 4 := sz_nat
          simp -implicitDefEqProofs (maxSteps := 1000000) (disch := first | exact dz | fail) only [vcR, vcT, simprocAttr, Ab.part, implies_true, forall_const, true_or, Option.isNone_some, Option.isNone_none, vcXAb25, Tryd.f71, List.toList_toArray]
          refine X_loopT (ι := Nat × Nat × List Value) (fun k => k.1 ≤ n ∧ (k.1 ≠ 0 → k.1 ≤ k.2.1 ∧ k.2.2.length = (k.2.1 - k.1) * 4)) (fun k => n - k.1) [7, 12, 13, 38, 39, 40, 41, 42, 43, 44, 45, 46, 47, 48, 49, 50, 51, 52, 53, 54]
            (fun k => [(7, rowS 1 k.1 k.2.1), (38, .s (.v (.int .i64 (k.1 : Nat))))])
            (fun k => ⟨24, nat4 0⟩ :: rowH 24 k.1 (nats k.1 (prt m l n)) k.2.2) (0, 0, []) ?_ (by decide) ?_ ?_
          · rintro ⟨k, c', sp⟩ ⟨hk, _⟩
            refine ⟨by simp, ?_, by simp, ?_⟩
            · simp only [List.forall_mem_cons]
              refine ⟨rowS_ok fun h0 => ?_, trivial, fun x hx => by simp at hx⟩
              rw [rowH_s h0]; exact Nat.lt_succ_self 1
            · simp only [List.forall_mem_cons]
              exact ⟨arr_ok _, row_ok (nats_ok _)⟩
          · refine ⟨⟨Nat.zero_le _, fun h => absurd rfl h⟩, [0], ⟨by decide, rfl⟩, ?_, rfl, trivial⟩
            simp -implicitDefEqProofs (maxSteps := 1000000) (disch := first | exact dz | fail) only [vcR, vcT, simprocAttr, Ab.part, implies_true, forall_const, true_or, Option.isNone_some, Option.isNone_none, vcXAb25, Tryd.f71, List.toList_toArray, renS_cons,renS_nil,ren_v,rowS_0]
          · rintro ⟨k, c3, sp⟩ us ⟨hk, hrow⟩
            simp only at hk hrow ⊢
            by_cases hki : k < n
            · have hx : ∀ {K : TV → HE → Prop}, xext ((ctxE Tryd.prog (modEvo 108) w B).after (modEvo 108) B w1 β [0]) (some true) 8 (ad.add (k * 8)) K = K (.agg (pt (l (2 * k)) (l (2 * k + 1)))) .none := fun {K} => hN1.pt hki
              have hx' : ∀ {K : TV → HE → Prop}, xext ((ctxE Tryd.prog (modEvo 108) w B).after (modEvo 108) B w1 β [0]) (some true) 4 ((⟨β 2, 0, none⟩ : Addr).add (k * 4)) K = K (.agg (nat4 (wgt m (px l) n k))) .none := fun {K} => hW1.nat hki
              have hly := hl (2 * k + 1)
              have hwl := wgt_lt hG (px l) n k
              clear hl
              by_cases h1 : k = 0
              · subst h1
                rw [rowH_0]
                (repeat' ((first | with_reducible (first | apply XQ_cons | apply XQ_consG | apply XQ_nil | apply XR_append | apply XR_cons | apply XR_consG | apply XR_nil | apply cF_pure (by assumption) | apply cV_pure (by assumption) | apply cF_ev (by assumption) | apply cV_ev (by assumption) | apply cF_ev (times_e _ _ _ _ bd bd bd) | apply cV_ev (times_e _ _ _ _ bd bd bd)) | with_reducible (first | apply gRS (by with_unfolding_all rfl) | apply gR (by with_unfolding_all rfl) | apply gS (by with_unfolding_all rfl) | fail) | (with_reducible apply X_drawC (id := 13) 9; (next => (kernel_rfl)); (next => (kernel_rfl))) | refine X_of _ ?_ | with_reducible (first | exact ⟨_, rfl⟩ | refine And.intro ?_ ?_ | intro _)) <;> try simp -implicitDefEqProofs (maxSteps := 1000000) (disch := first | exact dz | fail) only [vcR, vcT, simprocAttr, Ab.part, implies_true, forall_const, true_or, Option.isNone_some, Option.isNone_none, vcXAb25, Tryd.f71, List.toList_toArray, arr4_zero, nat4_set1, nat4_setL, nat4_set0, st_bs,xbs_some,hz1,one_set,hx,hx']))
                refine xappend_row (cs := nats 0 (prt m l n)) (sp := sp) (news_nat hszz rfl) (fun h => absurd rfl h) (by rw [nats_length, Nat.zero_mul]) (by rw [nat4_length, hszz]) (ap_nat _ (by omega)) (by rw [nat4_one]; trivial) (by first | exact fun h => h | (show ¬ (24 = 108); decide)) fun j' c'' sp' H' h1 h2 h3 h4 h5 h6 => ?_
                have hj0 : j' ≠ 0 := by
                  rcases h4 with ⟨h, _⟩ | h
                  · exact absurd rfl h
                  · rw [h]; simp
                have hH0 := h5 0 (by simp) (by decide)
                clear h4 h5 h6
                (repeat' ((first | with_reducible (first | apply XQ_cons | apply XQ_consG | apply XQ_nil | apply XR_append | apply XR_cons | apply XR_consG | apply XR_nil | apply cF_pure (by assumption) | apply cV_pure (by assumption) | apply cF_ev (by assumption) | apply cV_ev (by assumption) | apply cF_ev (times_e _ _ _ _ bd bd bd) | apply cV_ev (times_e _ _ _ _ bd bd bd)) | with_reducible (first | apply gRS (by with_unfolding_all rfl) | apply gR (by with_unfolding_all rfl) | apply gS (by with_unfolding_all rfl) | fail) | (with_reducible apply X_drawC (id := 13) 9; (next => (kernel_rfl)); (next => (kernel_rfl))) | refine X_of _ ?_ | with_reducible (first | exact ⟨_, rfl⟩ | refine And.intro ?_ ?_ | intro _)) <;> try simp -implicitDefEqProofs (maxSteps := 1000000) (disch := first | exact dz | fail) only [vcR, vcT, simprocAttr, Ab.part, implies_true, forall_const, true_or, Option.isNone_some, Option.isNone_none, vcXAb25, Tryd.f71, List.toList_toArray, arr4_zero, nat4_set1, nat4_setL, nat4_set0]))
                refine ⟨(0 + 1, c'', sp'), by simp; omega, ⟨by simp; omega, fun _ => ⟨h1, by rw [hszz] at h2; exact h2⟩⟩, [0, j'], ⟨by simp [Ne.symm hj0], rfl⟩, ?_, ⟨hH0.trans rfl, ?_, trivial⟩⟩
                · have e1 : (rowS 1 (0 + 1) c'').ren (lk [0, j']) = .s (.sl j' 0 (0 + 1) c'') := by rw [ren_rowS, rowS_s (by omega)]; rfl
                  simp -implicitDefEqProofs (maxSteps := 1000000) (disch := first | exact dz | fail) only [vcR, vcT, simprocAttr, Ab.part, implies_true, forall_const, true_or, Option.isNone_some, Option.isNone_none, vcXAb25, Tryd.f71, List.toList_toArray, renS_cons,renS_nil,ren_v,e1]
                · rw [h3]
                  exact congrArg (fun x => some (AB.mk _ (x ++ _))) (nats_snoc (l := prt m l n))
              · obtain ⟨hkc, hsp⟩ := hrow h1
                rw [rowH_s h1]
                (repeat' ((first | with_reducible (first | apply XQ_cons | apply XQ_consG | apply XQ_nil | apply XR_append | apply XR_cons | apply XR_consG | apply XR_nil | apply cF_pure (by assumption) | apply cV_pure (by assumption) | apply cF_ev (by assumption) | apply cV_ev (by assumption) | apply cF_ev (times_e _ _ _ _ bd bd bd) | apply cV_ev (times_e _ _ _ _ bd bd bd)) | with_reducible (first | apply gRS (by with_unfolding_all rfl) | apply gR (by with_unfolding_all rfl) | apply gS (by with_unfolding_all rfl) | fail) | (with_reducible apply X_drawC (id := 13) 9; (next => (kernel_rfl)); (next => (kernel_rfl))) | refine X_of _ ?_ | with_reducible (first | exact ⟨_, rfl⟩ | refine And.intro ?_ ?_ | intro _)) <;> try simp -implicitDefEqProofs (maxSteps := 1000000) (disch := first | exact dz | fail) only [vcR, vcT, simprocAttr, Ab.part, implies_true, forall_const, true_or, Option.isNone_some, Option.isNone_none, vcXAb25, Tryd.f71, List.toList_toArray, arr4_zero, nat4_set1, nat4_setL, nat4_set0, st_bs,xbs_some,hz1,one_set,hx,hx']))
                refine xappend_row (cs := nats k (prt m l n)) (sp := sp) (news_nat hszz rfl) (fun _ => ⟨rfl, hkc, by rw [hszz]; exact hsp⟩) (by rw [nats_length, hszz, Nat.mul_comm]) (by rw [nat4_length, hszz]) (ap_nat _ (by omega)) (by rw [nat4_one]; trivial) (by first | exact fun h => h | (show ¬ (24 = 108); decide)) fun j' c'' sp' H' h1 h2 h3 h4 h5 h6 => ?_
                have hj0 : j' ≠ 0 := by
                  rcases h4 with ⟨_, h⟩ | h
                  · omega
                  · rw [h]; simp
                have hH0 := h5 0 (by simp) (by decide)
                clear h4 h5 h6
                (repeat' ((first | with_reducible (first | apply XQ_cons | apply XQ_consG | apply XQ_nil | apply XR_append | apply XR_cons | apply XR_consG | apply XR_nil | apply cF_pure (by assumption) | apply cV_pure (by assumption) | apply cF_ev (by assumption) | apply cV_ev (by assumption) | apply cF_ev (times_e _ _ _ _ bd bd bd) | apply cV_ev (times_e _ _ _ _ bd bd bd)) | with_reducible (first | apply gRS (by with_unfolding_all rfl) | apply gR (by with_unfolding_all rfl) | apply gS (by with_unfolding_all rfl) | fail) | (with_reducible apply X_drawC (id := 13) 9; (next => (kernel_rfl)); (next => (kernel_rfl))) | refine X_of _ ?_ | with_reducible (first | exact ⟨_, rfl⟩ | refine And.intro ?_ ?_ | intro _)) <;> try simp -implicitDefEqProofs (maxSteps := 1000000) (disch := first | exact dz | fail) only [vcR, vcT, simprocAttr, Ab.part, implies_true, forall_const, true_or, Option.isNone_some, Option.isNone_none, vcXAb25, Tryd.f71, List.toList_toArray, arr4_zero, nat4_set1, nat4_setL, nat4_set0]))
                refine ⟨(k + 1, c'', sp'), by simp; omega, ⟨by simp; omega, fun _ => ⟨h1, by rw [hszz] at h2; exact h2⟩⟩, [0, j'], ⟨by simp [Ne.symm hj0], rfl⟩, ?_, ⟨hH0.trans rfl, ?_, trivial⟩⟩
                · have e1 : (rowS 1 (k + 1) c'').ren (lk [0, j']) = .s (.sl j' 0 (k + 1) c'') := by rw [ren_rowS, rowS_s (by omega)]; rfl
                  simp -implicitDefEqProofs (maxSteps := 1000000) (disch := first | exact dz | fail) only [vcR, vcT, simprocAttr, Ab.part, implies_true, forall_const, true_or, Option.isNone_some, Option.isNone_none, vcXAb25, Tryd.f71, List.toList_toArray, renS_cons,renS_nil,ren_v,e1]
                · rw [h3]
                  exact congrArg (fun x => some (AB.mk _ (x ++ _))) (nats_snoc (l := prt m l n))
            · have : n = k := by omega
              subst this
              rw [rowH_s h0]
              clear hM1 hN1 hW1 hl
              (repeat' ((first | with_reducible (first | apply XQ_cons | apply XQ_consG | apply XQ_nil | apply XR_append | apply XR_cons | apply XR_consG | apply XR_nil | apply cF_pure (by assumption) | apply cV_pure (by assumption) | apply cF_ev (by assumption) | apply cV_ev (by assumption) | apply cF_ev (times_e _ _ _ _ bd bd bd) | apply cV_ev (times_e _ _ _ _ bd bd bd)) | with_reducible (first | apply gRS (by with_unfolding_all rfl) | apply gR (by with_unfolding_all rfl) | apply gS (by with_unfolding_all rfl) | fail) | (with_reducible apply X_drawC (id := 13) 9; (next => (kernel_rfl)); (next => (kernel_rfl))) | refine X_of _ ?_ | with_reducible (first | exact ⟨_, rfl⟩ | refine And.intro ?_ ?_ | intro _)) <;> try simp -implicitDefEqProofs (maxSteps := 1000000) (disch := first | exact dz | fail) only [vcR, vcT, simprocAttr, Ab.part, implies_true, forall_const, true_or, Option.isNone_some, Option.isNone_none, vcXAb25, Tryd.f71, List.toList_toArray, arr4_zero, nat4_set1, nat4_setL, nat4_set0, rowS_s h0]))
              refine yF_evz (fun β' w' hR => ⟨_, sum_e kb m (some ⟨β' 1, 0, none⟩) n c3 (prt m l n) hG (fun _ => OddM.mod_lt hG) (by omega), hM w' hR.fr.to, natsAt_own hR rfl (by decide)⟩) rfl rfl (by kernel_rfl) ?_
              simp -implicitDefEqProofs (maxSteps := 1000000) (disch := first | exact dz | fail) only [vcR, vcT, simprocAttr, Ab.part, implies_true, forall_const, true_or, Option.isNone_some, Option.isNone_none, vcXAb25, Tryd.f71, List.toList_toArray]
              (repeat' ((first | with_reducible (first | apply XQ_cons | apply XQ_consG | apply XQ_nil | apply XR_append | apply XR_cons | apply XR_consG | apply XR_nil | apply cF_pure (by assumption) | apply cV_pure (by assumption) | apply cF_ev (by assumption) | apply cV_ev (by assumption) | apply cF_ev (times_e _ _ _ _ bd bd bd) | apply cV_ev (times_e _ _ _ _ bd bd bd)) | with_reducible (first | apply gRS (by with_unfolding_all rfl) | apply gR (by with_unfolding_all rfl) | apply gS (by with_unfolding_all rfl) | fail) | (with_reducible apply X_drawC (id := 13) 9; (next => (kernel_rfl)); (next => (kernel_rfl))) | refine X_of _ ?_ | with_reducible (first | exact ⟨_, rfl⟩ | refine And.intro ?_ ?_ | intro _)) <;> try simp -implicitDefEqProofs (maxSteps := 1000000) (disch := first | exact dz | fail) only [vcR, vcT, simprocAttr, Ab.part, implies_true, forall_const, true_or, Option.isNone_some, Option.isNone_none, vcXAb25, Tryd.f71, List.toList_toArray, arr4_zero, nat4_set1, nat4_setL, nat4_set0]))
theorem evC_ofA {V : Evo} {P : Program} {f : FuncId} {fn : Func} {c : Code} {args : List TV} {pre : Nat → World → Prop} {r : TV} (hf : P.funcs[f]? = some fn) (hb : fn.body = some c) (ha : ∀ x ∈ args, x.ok 0) (hr : r.ok 0)
    (h : ∀ B w, pre B w → XA (ctxE P V w B) (fun _ => True) c (args ++ List.replicate (fn.ntmps - args.length) undefT) [] (retA P fn.results.toList fun v _ _ => v = r)) : EvC V P f args pre r := by
  intro B w hp
  refine (calls_of_XA (Γ := ctxE P V w B) hf hb (repE P V w B fun _ => 0) trivial ha (h B w hp)).mono ?_
  rintro e w' ⟨v, H', A', β', rfl, _, hR, he⟩
  refine ⟨fun β'' => ?_, ext_of_repE hR⟩
  rw [he β' (.refl _ _)]
  rw [TV.conc_ok hr (β := β'') (β' := β') (fun j hj => absurd hj (Nat.not_lt_zero j))]
def pcsG (S : Nat → Int) (A : Nat → Nat) (j : Nat) : Value := if j % 5 = 0 then .int .i64 (S (j / 5)) else .int .u64 (wd (A (j / 5)) (j % 5 - 1) : Int)
def pcsAt (V : Evo) (x : Option Addr) (n : Nat) (S : Nat → Int) (A : Nat → Nat) : Nat → World → Prop := fun B w => n = 0 ∨ ∃ ad, x = some ad ∧ cellsAt V ad (5 * n) (pcsG S A) B w
theorem pcsAt_stays (V : Evo) (x : Option Addr) (n : Nat) (S : Nat → Int) (A : Nat → Nat) : Stays V (pcsAt V x n S A) := by
  rintro B w w' (h | ⟨ad, hx, h⟩) he
  · exact .inl h
  · exact .inr ⟨ad, hx, cellsAt_stays V ad _ _ B w w' h he⟩
theorem pcsG_s {S : Nat → Int} {A : Nat → Nat} {i : Nat} : pcsG S A (i * 5) = .int .i64 (S i) := by
  unfold pcsG
  rw [if_pos (by omega), show i * 5 / 5 = i by omega]
theorem pcsG_w {S : Nat → Int} {A : Nat → Nat} {i k : Nat} (hk : k < 4) : pcsG S A (i * 5 + (k + 1)) = .int .u64 (wd (A i) k : Int) := by
  unfold pcsG
  rw [if_neg (by omega), show (i * 5 + (k + 1)) / 5 = i by omega, show (i * 5 + (k + 1)) % 5 - 1 = k by omega]
theorem map_pcsG {S : Nat → Int} {A : Nat → Nat} {i : Nat} : ((List.range 5).map fun j => SV.v (pcsG S A (i * 5 + j))) = pieceC (S i) (A i) := by
  show [SV.v (pcsG S A (i * 5 + 0)), SV.v (pcsG S A (i * 5 + 1)), SV.v (pcsG S A (i * 5 + 2)), SV.v (pcsG S A (i * 5 + 3)), SV.v (pcsG S A (i * 5 + 4))] = _
  rw [Nat.add_zero, pcsG_s, pcsG_w (k := 0) (by decide), pcsG_w (k := 1) (by decide), pcsG_w (k := 2) (by decide), pcsG_w (k := 3) (by decide)]
  rfl
theorem Kn.pcs {Γ : Ctx} {V : Evo} {ad : Addr} {n i : Nat} {S : Nat → Int} {A : Nat → Nat} (h : Kn Γ (pcsAt V (some ad) n S A)) (hi : i < n) {K : TV → HE → Prop} : xext Γ (some true) 5 (ad.add (i * 5)) K = K (.agg (pieceC (S i) (A i))) .none := by
  have h1 : Kn Γ (cellsAt V ad (5 * n) (pcsG S A)) := fun w hw => by
    rcases h w hw with h0 | ⟨ad', hx, h2⟩
    · omega
    · injection hx with hx
      subst hx
      exact h2
  rw [xext_cells h1 (by omega), map_pcsG]
def rcF (f : Nat → Int) : Nat → Int
  | 0 => 0
  | i + 1 => if rcF f i ≠ 0 then rcF f i else f i
def keysI (S : Nat → Int) : Nat → List Int
  | 0 => []
  | i + 1 => insI (keysI S i) (S i)
def pl (S : Nat → Int) (A : Nat → Nat) (j : Nat) : Nat := if j % 2 = 0 then placeN (S (j / 2)) else A (j / 2)
def recE (P Q G m : Nat) (l : Nat → Nat) (n : Nat) (S : Nat → Int) (A : Nat → Nat) : Int :=
  let e := rcF (fun i => rightE P Q G m l (S i) (A i)) n
  if e ≠ 0 then e else if (keysI S n).length < n then 13 else if n < m then 3 else WE Q (px (pl S A)) n
def recV (P Q G m : Nat) (l : Nat → Nat) (n : Nat) (S : Nat → Int) (A : Nat → Nat) : Nat :=
  let e := rcF (fun i => rightE P Q G m l (S i) (A i)) n
  if e ≠ 0 then 0 else if (keysI S n).length < n then 0 else if n < m then 0 else atz Q (pl S A) n
theorem gap_pt (n : Nat) (hn : n ≤ 1000000) : apOK Tryd.prog 126 n := by
  have h1 : (Tryd.prog.info? 126).map (fun i => (i.bytes, i.size, i.zero.map fun z => z.cells.size)) = some (64, 8, some 8) := by kernel_rfl
  cases hi : Tryd.prog.info? 126 with
  | none => rw [hi] at h1; cases h1
  | some i =>
    rw [hi] at h1
    simp only [Option.map_some, Option.some.injEq, Prod.mk.injEq] at h1
    obtain ⟨h2, h3, h4⟩ := h1
    obtain ⟨z, hz, hz4⟩ := Option.map_eq_some_iff.1 h4
    exact ⟨i, z, hi, hz, by rw [hz4, h3], by rw [h2]; omega, by omega⟩
theorem gsz_pt : sz Tryd.prog 126 = 8 := by kernel_rfl
theorem gnews_pt {H : Heap} {k t a b n : Nat} (hn : n = 8) (hb : H[k]? = some ⟨t, pt a b⟩) : newsOf H n (.s (.sl k 0 1 1)) = some (pt a b, 1) := by
  subst hn
  have hl : (pt a b).length = 8 := pt_length
  have h8 : (pt a b).take 8 = pt a b := List.take_of_length_le (by omega)
  simp [newsOf, hb, hl, part_eq, h8]
theorem gpts_snoc {k : Nat} {l : Nat → Nat} : nats (2 * k) l ++ pt (l (2 * k)) (l (2 * k + 1)) = nats (2 * (k + 1)) l := by
  unfold pt
  rw [← List.append_assoc, nats_snoc, nats_snoc]
  rfl
theorem gone_pt (a b : Nat) : setAt (arr 8 fun _ => 0) 0 (pt a b) = pt a b := rfl
theorem rcF_ok {f : Nat → Int} : ∀ {n}, (∀ j, j < n → f j = 0) → rcF f n = 0
  | 0, _ => rfl
  | n + 1, h => by
    show (if rcF f n ≠ 0 then rcF f n else f n) = 0
    rw [rcF_ok fun j hj => h j (by omega), if_neg (by decide)]
    exact h n (by omega)
theorem rcF_bad {f : Nat → Int} {i : Nat} (h0 : ∀ j, j < i → f j = 0) (h : f i ≠ 0) : ∀ {n}, i < n → rcF f n = f i
  | 0, hi => absurd hi (Nat.not_lt_zero i)
  | n + 1, hi => by
    show (if rcF f n ≠ 0 then rcF f n else f n) = f i
    by_cases hin : i = n
    · subst hin
      rw [rcF_ok h0, if_neg (by decide)]
    · rw [rcF_bad h0 h (by omega), if_pos h]
section
variable {ι : Type} {T0 : List TV} {n : Nat} {V : ι → Prop} {μ : ι → Nat} {js : List Nat} {sv : ι → List (Nat × TV)} {Hs : ι → Heap} {i : ι} {Q : QX} {T : List TV} {H : Heap}
theorem loopT_r : loopT T0 n V μ js sv Hs i Q .ret T H = Q .ret T H := rfl
theorem loopT_x {j : Nat} : loopT T0 n V μ js sv Hs i Q (.exit j) T H = Q (.exit j) T H := rfl
end
section
variable {ι : Type} {T0 : List TV} {n : Nat} {V : ι → Prop} {μ : ι → Nat} {js : List Nat} {sv : ι → List (Nat × TV)} {Hs : ι → Heap} {AA : ι → World → Prop} {i : ι} {Q : QA} {T : List TV} {H : Heap} {A : World → Prop}
theorem loopTA_n : loopTA T0 n V μ js sv Hs AA i Q .normal T H A = ∃ i', μ i' < μ i ∧ AgainT T0 n V js sv Hs T H i' ∧ A = AA i' := rfl
theorem loopTA_r : loopTA T0 n V μ js sv Hs AA i Q .ret T H A = Q .ret T H A := rfl
theorem loopTA_x {j : Nat} : loopTA T0 n V μ js sv Hs AA i Q (.exit j) T H A = Q (.exit j) T H A := rfl
end
theorem mapTyI : MapTyI Tryd.prog 127 3 4 where
  m := by kernel_rfl
  k := by kernel_rfl
  kk := by kernel_rfl
theorem row_all {n k : Nat} {l : Nat → Nat} {sp : List Value} : ∀ x ∈ (nats n l ++ sp.map SV.v), x.ok k := by
  intro x hx
  rcases List.mem_append.1 hx with h | h
  · exact nats_ok k x h
  · obtain ⟨v, _, rfl⟩ := List.mem_map.1 h
    trivial
def trH11n38x8 : Tr := (.cons 3 (.cons 4 (.cons 5 (.cons 6 (.cons 7 (.cons 8 (.cons 9 .nil .nil) .nil) .nil) .nil) .nil) .nil) (.cons 4 (.cons 3 (.cons 5 (.cons 6 (.cons 7 (.cons 8 (.cons 9 .nil .nil) .nil) .nil) .nil) .nil) (.cons 5 (.cons 3 (.cons 6 (.cons 7 (.cons 8 (.cons 9 .nil .nil) .nil) .nil) .nil) .nil) .nil)) .nil))
theorem recover_e (k kx kq P Q G : Nat) (x : Option Addr) (m c : Nat) (l : Nat → Nat) (y : Option Addr) (n d : Nat) (S : Nat → Int) (A : Nat → Nat) (hP2 : P < 2 ^ 256) (hQ2 : Q < 2 ^ 256) (hG2 : G < 2 ^ 256) (hl : ∀ i, l i < 2 ^ 256) (hA : ∀ i, A i < 2 ^ 256)
    (hS : ∀ i, -9223372036854775808 ≤ S i ∧ S i ≤ 9223372036854775807) (hm : m < 9223372036854775808) (hn : n ≤ 100) :
    EvC (modEvo 108) Tryd.prog 38 [.s (.v (.pointer (some ⟨k, 0, none⟩))), .s (.v (.slice x m c)), .s (.v (.slice y n d))] (fun B w => (GK k kx kq P Q G B w ∧ oneK B w) ∧ natsAt (modEvo 108) x m l B w ∧ pcsAt (modEvo 108) y n S A B w)
      (.tup [.agg (nat4 (recV P Q G m l n S A)), .s (.v (.int .i64 (recE P Q G m l n S A)))]) := by
  obtain ⟨rv, hrv⟩ : ∃ v, recV P Q G m l n S A = v := ⟨_, rfl⟩
  obtain ⟨re, hre⟩ : ∃ v, recE P Q G m l n S A = v := ⟨_, rfl⟩
  rw [hrv, hre]
  refine evC_ofA Tryd.func38 rfl (by simp only [List.length_cons, List.length_nil, List.map_cons, List.map_nil, List.nodup_cons, List.nodup_nil, List.mem_cons, Nat.reduceAdd, Nat.reduceEqDiff, or_false, not_false_eq_true, forall_eq_or_imp, forall_eq, or_self, Nat.reduceLT, Nat.reduceLeDiff, and_self, List.forall_mem_cons, List.not_mem_nil, false_implies, implies_true, and_true, true_and, vcOHb]) (by simp only [List.length_cons, List.length_nil, List.map_cons, List.map_nil, List.nodup_cons, List.nodup_nil, List.mem_cons, Nat.reduceAdd, Nat.reduceEqDiff, or_false, not_false_eq_true, forall_eq_or_imp, forall_eq, or_self, Nat.reduceLT, Nat.reduceLeDiff, and_self, List.forall_mem_cons, List.not_mem_nil, false_implies, implies_true, and_true, true_and, vcOHb]) fun B w hpre => ?_
  simp only [List.length_cons, List.length_nil, Tryd.ntmps38, Nat.reduceAdd, Nat.reduceSub, List.replicate_succ, List.replicate_zero, List.cons_append, List.nil_append]
  have h0 := Kn.entry (P := Tryd.prog) (((isGrp_stays 108 k kx kq P Q G).and oneK_stays).and ((natsAt_stays _ x m l).and (pcsAt_stays _ y n S A))) hpre
  have hx0 := hpre.2.2
  clear hpre
  refine XA_seq (XA_of' ?_)
  (repeat' ((first | with_reducible (first | apply XR_append | apply XR_cons | apply XR_consG | apply XR_nil | apply XM_cons | apply XM_consG | apply XM_nil | apply cF_pure3 (by assumption) | apply cM_pure3 (by assumption) | apply cF_ev3 (by assumption) | apply cM_ev3 (by assumption)) | with_reducible (first | apply gRS (by with_unfolding_all rfl) | apply gR (by with_unfolding_all rfl) | apply gS (by with_unfolding_all rfl) | fail) | (with_reducible apply X_drawM (id := 8) 3 [] trH11n38x8; (next => (kernel_rfl)); (next => (kernel_rfl))) | refine X_of _ ?_ | with_reducible (first | exact ⟨_, rfl⟩ | refine And.intro ?_ ?_ | intro _)) <;> try simp -implicitDefEqProofs (maxSteps := 1000000) (disch := first | exact dz3 | fail) only [vcR, vcT, simprocAttr, Ab.part, implies_true, forall_const, true_or, Option.isNone_some, Option.isNone_none, vcXHb, Tryd.f38, List.toList_toArray, arr4_zero, nat4_set1, nat4_setL, nat4_set0, seqA_n, trH11n38x8]))
  refine XA_seq (XA_of' ?_)
  (repeat' ((first | with_reducible (first | apply XR_append | apply XR_cons | apply XR_consG | apply XR_nil | apply XM_cons | apply XM_consG | apply XM_nil | apply cF_pure3 (by assumption) | apply cM_pure3 (by assumption) | apply cF_ev3 (by assumption) | apply cM_ev3 (by assumption)) | with_reducible (first | apply gRS (by with_unfolding_all rfl) | apply gR (by with_unfolding_all rfl) | apply gS (by with_unfolding_all rfl) | fail) | (with_reducible apply X_drawM (id := 8) 3 [] trH11n38x8; (next => (kernel_rfl)); (next => (kernel_rfl))) | refine X_of _ ?_ | with_reducible (first | exact ⟨_, rfl⟩ | refine And.intro ?_ ?_ | intro _)) <;> try simp -implicitDefEqProofs (maxSteps := 1000000) (disch := first | exact dz3 | fail) only [vcR, vcT, simprocAttr, Ab.part, implies_true, forall_const, true_or, Option.isNone_some, Option.isNone_none, vcXHb, Tryd.f38, List.toList_toArray, arr4_zero, nat4_set1, nat4_setL, nat4_set0, seqA_n, trH11n38x8]))
  have hG : Kn (ctxE Tryd.prog (modEvo 108) w B) (GK k kx kq P Q G) := h0.left.left
  have hO : Kn (ctxE Tryd.prog (modEvo 108) w B) oneK := h0.left.right
  have hN : Kn (ctxE Tryd.prog (modEvo 108) w B) (natsAt (modEvo 108) x m l) := h0.right.left
  have hY : Kn (ctxE Tryd.prog (modEvo 108) w B) (pcsAt (modEvo 108) y n S A) := h0.right.right
  clear h0
  have hadr : n ≠ 0 → ∃ ad, y = some ad := fun h => by
    rcases hx0 with h0 | ⟨ad, h0, _⟩
    · omega
    · exact ⟨ad, h0⟩
  clear hx0
  have hz1 : slice0 Tryd.prog 126 1 = some (arr 8 fun _ => 0) := by kernel_rfl
  have hszz : sz (ctxE Tryd.prog (modEvo 108) w B).P 126 = 8 := gsz_pt
  obtain ⟨f, hf⟩ : ∃ f : Nat → Int, (fun i => rightE P Q G m l (S i) (A i)) = f := ⟨_, rfl⟩
  have hr : ∀ i, EvC (modEvo 108) Tryd.prog 36 [.s (.v (.pointer (some ⟨k, 0, none⟩))), .s (.v (.slice x m c)), .agg (pieceC (S i) (A i))] (fun B w => (GK k kx kq P Q G B w ∧ oneK B w) ∧ natsAt (modEvo 108) x m l B w) (.s (.v (.int .i64 (f i)))) := fun i => by
    rw [← hf]
    exact right_e k kx kq P Q G x m c l (S i) (A i) hP2 hQ2 hG2 hl (hA i) (hS i).1 (hS i).2
  have hfs : ∀ i, f i = 0 → 0 ≤ S i ∧ S i < 40 := fun i h => by
    rw [← hf] at h
    have h : rightE P Q G m l (S i) (A i) = 0 := h
    unfold rightE at h
    by_cases hb : r1B Q m (S i) = true
    · simp only [r1B, Bool.and_eq_true, decide_eq_true_eq] at hb
      exact ⟨hb.1.1.2, hb.1.2⟩
    · rw [if_neg hb] at h
      exact absurd h (by decide)
  have hb1 : ∀ a, (setAt [.v (.int .u64 0), .v (.int .u64 0), .v (.int .u64 0), .v (.int .u64 0), .v (.int .u64 0), .v (.int .u64 0), .v (.int .u64 0), .v (.int .u64 0)] 0 (nat4 a)).length = 8 := fun _ => rfl
  have hb2 : ∀ a b, setAt (setAt [.v (.int .u64 0), .v (.int .u64 0), .v (.int .u64 0), .v (.int .u64 0), .v (.int .u64 0), .v (.int .u64 0), .v (.int .u64 0), .v (.int .u64 0)] 0 (nat4 a)) 4 (nat4 b) = pt a b := fun _ _ => rfl
  obtain ⟨pp, hpp⟩ : ∃ pp, pl S A = pp := ⟨_, rfl⟩
  have hp0 : ∀ i, pp (2 * i) = placeN (S i) := fun i => by
    rw [← hpp]
    unfold pl
    rw [if_pos (by omega), show 2 * i / 2 = i by omega]
  have hp1 : ∀ i, pp (2 * i + 1) = A i := fun i => by
    rw [← hpp]
    unfold pl
    rw [if_neg (by omega), show (2 * i + 1) / 2 = i by omega]
  refine XA_seq (XA_of' ?_)
  (repeat' ((first | with_reducible (first | apply XR_append | apply XR_cons | apply XR_consG | apply XR_nil | apply XM_cons | apply XM_consG | apply XM_nil | apply cF_pure3 (by assumption) | apply cM_pure3 (by assumption) | apply cF_ev3 (by assumption) | apply cM_ev3 (by assumption)) | with_reducible (first | apply gRS (by with_unfolding_all rfl) | apply gR (by with_unfolding_all rfl) | apply gS (by with_unfolding_all rfl) | fail) | (with_reducible apply X_drawM (id := 8) 3 [] trH11n38x8; (next => (kernel_rfl)); (next => (kernel_rfl))) | refine X_of _ ?_ | with_reducible (first | exact ⟨_, rfl⟩ | refine And.intro ?_ ?_ | intro _)) <;> try simp -implicitDefEqProofs (maxSteps := 1000000) (disch := first | exact dz3 | fail) only [vcR, vcT, simprocAttr, Ab.part, implies_true, forall_const, true_or, Option.isNone_some, Option.isNone_none, vcXHb, Tryd.f38, List.toList_toArray, arr4_zero, nat4_set1, nat4_setL, nat4_set0, seqA_n, trH11n38x8]))
  refine X_loopT (ι := Nat × Nat × List Value) (fun k => k.1 ≤ n ∧ (∀ j, j < k.1 → f j = 0) ∧ (k.1 ≠ 0 → k.1 ≤ k.2.1 ∧ k.2.2.length = (k.2.1 - k.1) * 8)) (fun k => n - k.1) [7, 8, 10, 11, 17, 18, 19, 20, 21, 22, 23, 24, 25, 26, 27, 28, 29, 30, 31, 32, 33, 34, 35, 36, 37, 38]
    (fun k => [(8, rowS 1 k.1 k.2.1), (17, .s (.v (.int .i64 (k.1 : Nat))))])
    (fun k => ⟨24, nat4 0⟩ :: rowH 126 k.1 (nats (2 * k.1) pp) k.2.2) (0, 0, []) ?_ (by decide) ?_ ?_
  · rintro ⟨i, c', sp⟩ ⟨hi, _, _⟩
    refine ⟨by simp, ?_, by simp, ?_⟩
    · simp only [List.forall_mem_cons]
      refine ⟨rowS_ok fun h0 => ?_, trivial, fun x hx => by simp at hx⟩
      rw [rowH_s h0]; exact Nat.lt_succ_self 1
    · simp only [List.forall_mem_cons]
      exact ⟨arr_ok _, row_okG (nats_ok _)⟩
  · refine ⟨⟨Nat.zero_le _, fun j hj => absurd hj (Nat.not_lt_zero j), fun h => absurd rfl h⟩, [0], ⟨by decide, rfl⟩, ?_, ?_⟩
    · simp -implicitDefEqProofs (maxSteps := 1000000) (disch := first | exact dz3 | fail) only [vcR, vcT, simprocAttr, Ab.part, implies_true, forall_const, true_or, Option.isNone_some, Option.isNone_none, vcXHb, Tryd.f38, List.toList_toArray, renS_cons,renS_nil,ren_v,rowS_0]
      try simp
    · first | exact ⟨rfl, trivial⟩ | trace_state
  · rintro ⟨i, c', sp⟩ us ⟨hi, hall, hrow⟩
    simp only at hi hall hrow ⊢
    by_cases hin : i < n
    · obtain ⟨ad, rfl⟩ := hadr (by omega)
      have hx : ∀ {K : TV → HE → Prop}, xext (ctxE Tryd.prog (modEvo 108) w B) (some true) 5 (ad.add (i * 5)) K = K (.agg (pieceC (S i) (A i))) .none := fun {K} => Kn.pcs hY hin
      have hri := hr i
      clear hl hA hS hadr
      by_cases hfi : f i = 0
      · have hpl := place_c (S i) (by have := (hfs i hfi).1; omega) (by have := (hfs i hfi).2; omega)
        rw [hfi] at hri
        rw [← hp0] at hpl
        have hq1 := hp1 i
        --<
        have hall' : ∀ j, j < i + 1 → f j = 0 := fun j hj => by
          by_cases hji : j = i
          · subst hji; exact hfi
          · exact hall j (by omega)
        by_cases h0 : i = 0
        · subst h0
          rw [rowH_0]
          (repeat' ((first | with_reducible (first | apply XQ_cons | apply XQ_consG | apply XQ_nil | apply XR_append | apply XR_cons | apply XR_consG | apply XR_nil | apply cF_pure3 (by assumption) | apply cV_pure3 (by assumption) | apply cF_ev3 (by assumption) | apply cV_ev3 (by assumption)) | with_reducible (first | apply gRS (by with_unfolding_all rfl) | apply gR (by with_unfolding_all rfl) | apply gS (by with_unfolding_all rfl) | apply gSB (by with_unfolding_all rfl) | apply gB (by with_unfolding_all rfl) | fail) | (with_reducible apply X_drawC (id := 8) 7; (next => (kernel_rfl)); (next => (kernel_rfl))) | refine X_of _ ?_ | with_reducible (first | exact ⟨_, rfl⟩ | refine And.intro ?_ ?_ | intro _)) <;> try simp -implicitDefEqProofs (maxSteps := 1000000) (disch := first | exact dz3 | fail) only [vcR, vcT, simprocAttr, Ab.part, implies_true, forall_const, true_or, Option.isNone_some, Option.isNone_none, vcXHb, Tryd.f38, List.toList_toArray, arr4_zero, nat4_set1, nat4_setL, nat4_set0, hx,st_bs,xbs_some,hz1,gone_pt,hb1,hb2,Nat.le_refl]))
          refine xappend_row (cs := nats (2 * 0) pp) (sp := sp) (gnews_pt hszz rfl) (fun h => absurd rfl h) (by rw [nats_length, hszz]) (by rw [pt_length, hszz]) (gap_pt _ (by omega)) (by rw [pt_one]; trivial) (by first | exact fun h => h | (show ¬ (126 = 108); decide)) fun j' c'' sp' H' h1 h2 h3 h4 h5 h6 => ?_
          have hj0 : j' ≠ 0 := by
            rcases h4 with ⟨h, _⟩ | h
            · exact absurd rfl h
            · rw [h]; simp
          have hH0 := h6 rfl 0 (by simp)
          clear h4 h5 h6 hri hpl hx
          (repeat' ((first | with_reducible (first | apply XQ_cons | apply XQ_consG | apply XQ_nil | apply XR_append | apply XR_cons | apply XR_consG | apply XR_nil | apply cF_pure3 (by assumption) | apply cV_pure3 (by assumption) | apply cF_ev3 (by assumption) | apply cV_ev3 (by assumption)) | with_reducible (first | apply gRS (by with_unfolding_all rfl) | apply gR (by with_unfolding_all rfl) | apply gS (by with_unfolding_all rfl) | apply gSB (by with_unfolding_all rfl) | apply gB (by with_unfolding_all rfl) | fail) | (with_reducible apply X_drawC (id := 8) 7; (next => (kernel_rfl)); (next => (kernel_rfl))) | refine X_of _ ?_ | with_reducible (first | exact ⟨_, rfl⟩ | refine And.intro ?_ ?_ | intro _)) <;> try simp -implicitDefEqProofs (maxSteps := 1000000) (disch := first | exact dz3 | fail) only [vcR, vcT, simprocAttr, Ab.part, implies_true, forall_const, true_or, Option.isNone_some, Option.isNone_none, vcXHb, Tryd.f38, List.toList_toArray, arr4_zero, nat4_set1, nat4_setL, nat4_set0]))
          refine ⟨(0 + 1, c'', sp'), by simp; omega, ⟨⟨by simp; omega, hall', fun _ => ⟨h1, by rw [hszz] at h2; exact h2⟩⟩, [0, j'], ⟨by simp [Ne.symm hj0], rfl⟩, ?_, ⟨hH0.trans rfl, ?_, trivial⟩⟩⟩
          · have e1 : (rowS 1 (0 + 1) c'').ren (lk [0, j']) = .s (.sl j' 0 (0 + 1) c'') := by rw [ren_rowS, rowS_s (by omega)]; rfl
            simp -implicitDefEqProofs (maxSteps := 1000000) (disch := first | exact dz3 | fail) only [vcR, vcT, simprocAttr, Ab.part, implies_true, forall_const, true_or, Option.isNone_some, Option.isNone_none, vcXHb, Tryd.f38, List.toList_toArray, renS_cons,renS_nil,ren_v,e1]
          · rw [h3, ← hq1]
            exact congrArg (fun x => some (AB.mk _ (x ++ _))) (gpts_snoc (l := pp))
        · obtain ⟨hkc, hsp⟩ := hrow h0
          rw [rowH_s h0]
          (repeat' ((first | with_reducible (first | apply XQ_cons | apply XQ_consG | apply XQ_nil | apply XR_append | apply XR_cons | apply XR_consG | apply XR_nil | apply cF_pure3 (by assumption) | apply cV_pure3 (by assumption) | apply cF_ev3 (by assumption) | apply cV_ev3 (by assumption)) | with_reducible (first | apply gRS (by with_unfolding_all rfl) | apply gR (by with_unfolding_all rfl) | apply gS (by with_unfolding_all rfl) | apply gSB (by with_unfolding_all rfl) | apply gB (by with_unfolding_all rfl) | fail) | (with_reducible apply X_drawC (id := 8) 7; (next => (kernel_rfl)); (next => (kernel_rfl))) | refine X_of _ ?_ | with_reducible (first | exact ⟨_, rfl⟩ | refine And.intro ?_ ?_ | intro _)) <;> try simp -implicitDefEqProofs (maxSteps := 1000000) (disch := first | exact dz3 | fail) only [vcR, vcT, simprocAttr, Ab.part, implies_true, forall_const, true_or, Option.isNone_some, Option.isNone_none, vcXHb, Tryd.f38, List.toList_toArray, arr4_zero, nat4_set1, nat4_setL, nat4_set0, hx,st_bs,xbs_some,hz1,gone_pt,hb1,hb2,Nat.le_refl]))
          refine xappend_row (cs := nats (2 * i) pp) (sp := sp) (gnews_pt hszz rfl) (fun _ => ⟨rfl, hkc, by rw [hszz]; exact hsp⟩) (by rw [nats_length, hszz]; omega) (by rw [pt_length, hszz]) (gap_pt _ (by omega)) (by rw [pt_one]; trivial) (by first | exact fun h => h | (show ¬ (126 = 108); decide)) fun j' c'' sp' H' h1 h2 h3 h4 h5 h6 => ?_
          have hj0 : j' ≠ 0 := by
            rcases h4 with ⟨_, h⟩ | h
            · omega
            · rw [h]; simp
          have hH0 := h5 0 (by simp) (by decide)
          clear h4 h5 h6 hri hpl hx
          (repeat' ((first | with_reducible (first | apply XQ_cons | apply XQ_consG | apply XQ_nil | apply XR_append | apply XR_cons | apply XR_consG | apply XR_nil | apply cF_pure3 (by assumption) | apply cV_pure3 (by assumption) | apply cF_ev3 (by assumption) | apply cV_ev3 (by assumption)) | with_reducible (first | apply gRS (by with_unfolding_all rfl) | apply gR (by with_unfolding_all rfl) | apply gS (by with_unfolding_all rfl) | apply gSB (by with_unfolding_all rfl) | apply gB (by with_unfolding_all rfl) | fail) | (with_reducible apply X_drawC (id := 8) 7; (next => (kernel_rfl)); (next => (kernel_rfl))) | refine X_of _ ?_ | with_reducible (first | exact ⟨_, rfl⟩ | refine And.intro ?_ ?_ | intro _)) <;> try simp -implicitDefEqProofs (maxSteps := 1000000) (disch := first | exact dz3 | fail) only [vcR, vcT, simprocAttr, Ab.part, implies_true, forall_const, true_or, Option.isNone_some, Option.isNone_none, vcXHb, Tryd.f38, List.toList_toArray, arr4_zero, nat4_set1, nat4_setL, nat4_set0]))
          refine ⟨(i + 1, c'', sp'), by simp; omega, ⟨⟨by simp; omega, hall', fun _ => ⟨h1, by rw [hszz] at h2; exact h2⟩⟩, [0, j'], ⟨by simp [Ne.symm hj0], rfl⟩, ?_, ⟨hH0.trans rfl, ?_, trivial⟩⟩⟩
          · have e1 : (rowS 1 (i + 1) c'').ren (lk [0, j']) = .s (.sl j' 0 (i + 1) c'') := by rw [ren_rowS, rowS_s (by omega)]; rfl
            simp -implicitDefEqProofs (maxSteps := 1000000) (disch := first | exact dz3 | fail) only [vcR, vcT, simprocAttr, Ab.part, implies_true, forall_const, true_or, Option.isNone_some, Option.isNone_none, vcXHb, Tryd.f38, List.toList_toArray, renS_cons,renS_nil,ren_v,e1]
          · rw [h3, ← hq1]
            exact congrArg (fun x => some (AB.mk _ (x ++ _))) (gpts_snoc (l := pp))
        -->
      · have hfi' : (f i != 0) = true := by simpa using hfi
        have hbad := rcF_bad hall hfi hin
        have hre' : f i = re := by rw [← hre]; unfold recE; simp only; rw [hf, hbad, if_pos hfi]
        have hrv' : 0 = rv := by rw [← hrv]; unfold recV; simp only; rw [hf, hbad, if_pos hfi]
        --<
        by_cases h0 : i = 0
        · subst h0
          rw [rowH_0]
          (repeat' ((first | with_reducible (first | apply XQ_cons | apply XQ_consG | apply XQ_nil | apply XR_append | apply XR_cons | apply XR_consG | apply XR_nil | apply cF_pure3 (by assumption) | apply cV_pure3 (by assumption) | apply cF_ev3 (by assumption) | apply cV_ev3 (by assumption)) | with_reducible (first | apply gRS (by with_unfolding_all rfl) | apply gR (by with_unfolding_all rfl) | apply gS (by with_unfolding_all rfl) | apply gSB (by with_unfolding_all rfl) | apply gB (by with_unfolding_all rfl) | fail) | (with_reducible apply X_drawC (id := 8) 7; (next => (kernel_rfl)); (next => (kernel_rfl))) | refine X_of _ ?_ | with_reducible (first | exact ⟨_, rfl⟩ | refine And.intro ?_ ?_ | intro _)) <;> try simp -implicitDefEqProofs (maxSteps := 1000000) (disch := first | exact dz3 | fail) only [vcR, vcT, simprocAttr, Ab.part, implies_true, forall_const, true_or, Option.isNone_some, Option.isNone_none, vcXHb, Tryd.f38, List.toList_toArray, arr4_zero, nat4_set1, nat4_setL, nat4_set0, hx,hfi',loopT_r,loopT_x,seqA_r,retA_r]))
          all_goals first | exact congrArg nat4 hrv' | exact hre' | exact ⟨congrArg nat4 hrv', hre'⟩
        · rw [rowH_s h0]
          (repeat' ((first | with_reducible (first | apply XQ_cons | apply XQ_consG | apply XQ_nil | apply XR_append | apply XR_cons | apply XR_consG | apply XR_nil | apply cF_pure3 (by assumption) | apply cV_pure3 (by assumption) | apply cF_ev3 (by assumption) | apply cV_ev3 (by assumption)) | with_reducible (first | apply gRS (by with_unfolding_all rfl) | apply gR (by with_unfolding_all rfl) | apply gS (by with_unfolding_all rfl) | apply gSB (by with_unfolding_all rfl) | apply gB (by with_unfolding_all rfl) | fail) | (with_reducible apply X_drawC (id := 8) 7; (next => (kernel_rfl)); (next => (kernel_rfl))) | refine X_of _ ?_ | with_reducible (first | exact ⟨_, rfl⟩ | refine And.intro ?_ ?_ | intro _)) <;> try simp -implicitDefEqProofs (maxSteps := 1000000) (disch := first | exact dz3 | fail) only [vcR, vcT, simprocAttr, Ab.part, implies_true, forall_const, true_or, Option.isNone_some, Option.isNone_none, vcXHb, Tryd.f38, List.toList_toArray, arr4_zero, nat4_set1, nat4_setL, nat4_set0, hx,hfi',loopT_r,loopT_x,seqA_r,retA_r]))
          all_goals first | exact congrArg nat4 hrv' | exact hre' | exact ⟨congrArg nat4 hrv', hre'⟩
        -->
    · have : i = n := by omega
      subst this
      have hok := rcF_ok hall
      clear hin hi
      have hre' : (if (keysI S i).length < i then 13 else if i < m then 3 else WE Q (px (pl S A)) i) = re := by rw [← hre]; unfold recE; simp only; rw [hf, hok, if_neg (show ¬ ((0 : Int) ≠ 0) from fun h => h rfl)]
      have hrv' : (if (keysI S i).length < i then 0 else if i < m then 0 else atz Q (pl S A) i) = rv := by rw [← hrv]; unfold recV; simp only; rw [hf, hok, if_neg (show ¬ ((0 : Int) ≠ 0) from fun h => h rfl)]
      rw [hpp] at hre' hrv'
      by_cases h0 : i = 0
      · subst h0
        rw [rowH_0]
        (repeat' ((first | with_reducible (first | apply XR_append | apply XR_cons | apply XR_consG | apply XR_nil | apply XM_cons | apply XM_consG | apply XM_nil | apply cF_pure3 (by assumption) | apply cM_pure3 (by assumption) | apply cF_ev3 (by assumption) | apply cM_ev3 (by assumption)) | with_reducible (first | apply gRS (by with_unfolding_all rfl) | apply gR (by with_unfolding_all rfl) | apply gS (by with_unfolding_all rfl) | fail) | (with_reducible apply X_drawM (id := 8) 3 [] trH11n38x8; (next => (kernel_rfl)); (next => (kernel_rfl))) | refine X_of _ ?_ | with_reducible (first | exact ⟨_, rfl⟩ | refine And.intro ?_ ?_ | intro _)) <;> try simp -implicitDefEqProofs (maxSteps := 1000000) (disch := first | exact dz3 | fail) only [vcR, vcT, simprocAttr, Ab.part, implies_true, forall_const, true_or, Option.isNone_some, Option.isNone_none, vcXHb, Tryd.f38, List.toList_toArray, arr4_zero, nat4_set1, nat4_setL, nat4_set0, rowS_0,loopT_r,loopT_x,seqA_n, trH11n38x8]))
        refine XA_seq (XA_reg (XAR_mkI fun b hb => ?_))
        try simp -implicitDefEqProofs (maxSteps := 1000000) (disch := first | exact dz3 | fail) only [vcR, vcT, simprocAttr, Ab.part, implies_true, forall_const, true_or, Option.isNone_some, Option.isNone_none, vcXHb, Tryd.f38, List.toList_toArray]
        refine XAR_step [0] (steady_imap _ _) rfl (by simp <;> omega) (by simp) fun β2 w2 hR2 hA2 hK2 => ?_
        try simp -implicitDefEqProofs (maxSteps := 1000000) (disch := first | exact dz3 | fail) only [vcR, vcT, simprocAttr, Ab.part, implies_true, forall_const, true_or, Option.isNone_some, Option.isNone_none, vcXHb, Tryd.f38, List.toList_toArray]
        clear hK2 hA2 hR2 w2 β2
        refine XAR_nil ?_
        try simp -implicitDefEqProofs (maxSteps := 1000000) (disch := first | exact dz3 | fail) only [vcR, vcT, simprocAttr, Ab.part, implies_true, forall_const, true_or, Option.isNone_some, Option.isNone_none, vcXHb, Tryd.f38, List.toList_toArray, seqA_n]
        refine XA_seq (XA_seq (XA_X [0] (steady_imap _ _) rfl (by simp <;> omega) (by simp) fun β1 w1 hR1 hA1 hK1 => ?_))
        (repeat' ((first | with_reducible (first | apply XR_append | apply XR_cons | apply XR_consG | apply XR_nil | apply XM_cons | apply XM_consG | apply XM_nil | apply cF_pure3 (by assumption) | apply cM_pure3 (by assumption) | apply cF_ev3 (by assumption) | apply cM_ev3 (by assumption)) | with_reducible (first | apply gRS (by with_unfolding_all rfl) | apply gR (by with_unfolding_all rfl) | apply gS (by with_unfolding_all rfl) | fail) | (with_reducible apply X_drawM (id := 8) 3 [] trH11n38x8; (next => (kernel_rfl)); (next => (kernel_rfl))) | refine X_of _ ?_ | with_reducible (first | exact ⟨_, rfl⟩ | refine And.intro ?_ ?_ | intro _)) <;> try simp -implicitDefEqProofs (maxSteps := 1000000) (disch := first | exact dz3 | fail) only [vcR, vcT, simprocAttr, Ab.part, implies_true, forall_const, true_or, Option.isNone_some, Option.isNone_none, vcXHb, Tryd.f38, List.toList_toArray, arr4_zero, nat4_set1, nat4_setL, nat4_set0, seqA_n,seqA_r,seqA_x,blockA_n,blockA_r,blockA_x,loopTA_n,loopTA_r,loopTA_x,retA_n,retA_r, trH11n38x8]))
        clear hK1 hA1 hR1 w1 β1
        refine XA_block (XA_loopT (ι := Nat) (fun j => j ≤ 0) (fun j => 0 - j) [14, 42, 43, 44, 45, 46, 47, 48, 49]
          (fun j => [(42, .s (.v (.int .i64 (j : Nat))))]) (fun _ => [⟨24, nat4 0⟩]) (fun j => IMap b (keysI S j)) 0 ?_ (by decide) ?_ rfl ?_)
        · intro j hj
          refine ⟨by simp, ?_, by simp, ?_⟩
          · simp only [List.length_cons, List.length_nil, List.map_cons, List.map_nil, List.nodup_cons, List.nodup_nil, List.mem_cons, Nat.reduceAdd, Nat.reduceEqDiff, or_false, not_false_eq_true, forall_eq_or_imp, forall_eq, or_self, Nat.reduceLT, Nat.reduceLeDiff, and_self, List.forall_mem_cons, List.not_mem_nil, false_implies, implies_true, and_true, true_and, vcOHb]
          · simp only [List.forall_mem_cons]
            exact ⟨arr_ok _, fun x hx => by simp at hx⟩
        · refine ⟨Nat.zero_le _, [0], ⟨by decide, rfl⟩, ?_, rfl, trivial⟩
          simp -implicitDefEqProofs (maxSteps := 1000000) (disch := first | exact dz3 | fail) only [vcR, vcT, simprocAttr, Ab.part, implies_true, forall_const, true_or, Option.isNone_some, Option.isNone_none, vcXHb, Tryd.f38, List.toList_toArray, renS_cons,renS_nil,ren_v]
        · intro j us2 hj
          have : j = 0 := by omega
          subst this
          refine XA_seq (XA_X [0] (steady_imap _ _) rfl (by simp <;> omega) (by simp) fun β1 w1 hR1 hA1 hK1 => ?_)
          (repeat' ((first | with_reducible (first | apply XR_append | apply XR_cons | apply XR_consG | apply XR_nil | apply XM_cons | apply XM_consG | apply XM_nil | apply cF_pure3 (by assumption) | apply cM_pure3 (by assumption) | apply cF_ev3 (by assumption) | apply cM_ev3 (by assumption)) | with_reducible (first | apply gRS (by with_unfolding_all rfl) | apply gR (by with_unfolding_all rfl) | apply gS (by with_unfolding_all rfl) | fail) | (with_reducible apply X_drawM (id := 8) 3 [] trH11n38x8; (next => (kernel_rfl)); (next => (kernel_rfl))) | refine X_of _ ?_ | with_reducible (first | exact ⟨_, rfl⟩ | refine And.intro ?_ ?_ | intro _)) <;> try simp -implicitDefEqProofs (maxSteps := 1000000) (disch := first | exact dz3 | fail) only [vcR, vcT, simprocAttr, Ab.part, implies_true, forall_const, true_or, Option.isNone_some, Option.isNone_none, vcXHb, Tryd.f38, List.toList_toArray, arr4_zero, nat4_set1, nat4_setL, nat4_set0, seqA_n,seqA_r,seqA_x,blockA_n,blockA_r,blockA_x,loopTA_n,loopTA_r,loopTA_x,retA_n,retA_r, trH11n38x8]))
          clear hK1 hA1 hR1 w1 β1
          refine XA_seq (XA_X [0] (steady_imap _ _) rfl (by simp <;> omega) (by simp) fun β1 w1 hR1 hA1 hK1 => ?_)
          (repeat' ((first | with_reducible (first | apply XR_append | apply XR_cons | apply XR_consG | apply XR_nil | apply XM_cons | apply XM_consG | apply XM_nil | apply cF_pure3 (by assumption) | apply cM_pure3 (by assumption) | apply cF_ev3 (by assumption) | apply cM_ev3 (by assumption)) | with_reducible (first | apply gRS (by with_unfolding_all rfl) | apply gR (by with_unfolding_all rfl) | apply gS (by with_unfolding_all rfl) | fail) | (with_reducible apply X_drawM (id := 8) 3 [] trH11n38x8; (next => (kernel_rfl)); (next => (kernel_rfl))) | refine X_of _ ?_ | with_reducible (first | exact ⟨_, rfl⟩ | refine And.intro ?_ ?_ | intro _)) <;> try simp -implicitDefEqProofs (maxSteps := 1000000) (disch := first | exact dz3 | fail) only [vcR, vcT, simprocAttr, Ab.part, implies_true, forall_const, true_or, Option.isNone_some, Option.isNone_none, vcXHb, Tryd.f38, List.toList_toArray, arr4_zero, nat4_set1, nat4_setL, nat4_set0, seqA_n,seqA_r,seqA_x,blockA_n,blockA_r,blockA_x,loopTA_n,loopTA_r,loopTA_x,retA_n,retA_r, trH11n38x8]))
          clear hK1 hA1 hR1 w1 β1
          refine XA_seq (XA_block (XA_seq (XA_reg ?_)))
          try simp -implicitDefEqProofs (maxSteps := 1000000) (disch := first | exact dz3 | fail) only [vcR, vcT, simprocAttr, Ab.part, implies_true, forall_const, true_or, Option.isNone_some, Option.isNone_none, vcXHb, Tryd.f38, List.toList_toArray]
          refine XAR_step [0] (steady_imap _ _) rfl (by simp <;> omega) (by simp) fun β2 w2 hR2 hA2 hK2 => ?_
          try simp -implicitDefEqProofs (maxSteps := 1000000) (disch := first | exact dz3 | fail) only [vcR, vcT, simprocAttr, Ab.part, implies_true, forall_const, true_or, Option.isNone_some, Option.isNone_none, vcXHb, Tryd.f38, List.toList_toArray]
          clear hK2 hA2 hR2 w2 β2
          refine XAR_lenI mapTyI rfl ?_
          try simp -implicitDefEqProofs (maxSteps := 1000000) (disch := first | exact dz3 | fail) only [vcR, vcT, simprocAttr, Ab.part, implies_true, forall_const, true_or, Option.isNone_some, Option.isNone_none, vcXHb, Tryd.f38, List.toList_toArray]
          refine XAR_step [0] (steady_imap _ _) rfl (by simp <;> omega) (by simp) fun β2 w2 hR2 hA2 hK2 => ?_
          try simp -implicitDefEqProofs (maxSteps := 1000000) (disch := first | exact dz3 | fail) only [vcR, vcT, simprocAttr, Ab.part, implies_true, forall_const, true_or, Option.isNone_some, Option.isNone_none, vcXHb, Tryd.f38, List.toList_toArray]
          clear hK2 hA2 hR2 w2 β2
          refine XAR_step [0] (steady_imap _ _) rfl (by simp <;> omega) (by simp) fun β2 w2 hR2 hA2 hK2 => ?_
          try simp -implicitDefEqProofs (maxSteps := 1000000) (disch := first | exact dz3 | fail) only [vcR, vcT, simprocAttr, Ab.part, implies_true, forall_const, true_or, Option.isNone_some, Option.isNone_none, vcXHb, Tryd.f38, List.toList_toArray]
          clear hK2 hA2 hR2 w2 β2
          refine XAR_step [0] (steady_imap _ _) rfl (by simp <;> omega) (by simp) fun β2 w2 hR2 hA2 hK2 => ?_
          try simp -implicitDefEqProofs (maxSteps := 1000000) (disch := first | exact dz3 | fail) only [vcR, vcT, simprocAttr, Ab.part, implies_true, forall_const, true_or, Option.isNone_some, Option.isNone_none, vcXHb, Tryd.f38, List.toList_toArray]
          clear hK2 hA2 hR2 w2 β2
          refine XAR_step [0] (steady_imap _ _) rfl (by simp <;> omega) (by simp) fun β2 w2 hR2 hA2 hK2 => ?_
          try simp -implicitDefEqProofs (maxSteps := 1000000) (disch := first | exact dz3 | fail) only [vcR, vcT, simprocAttr, Ab.part, implies_true, forall_const, true_or, Option.isNone_some, Option.isNone_none, vcXHb, Tryd.f38, List.toList_toArray]
          clear hK2 hA2 hR2 w2 β2
          refine XAR_nil ?_
          try simp -implicitDefEqProofs (maxSteps := 1000000) (disch := first | exact dz3 | fail) only [vcR, vcT, simprocAttr, Ab.part, implies_true, forall_const, true_or, Option.isNone_some, Option.isNone_none, vcXHb, Tryd.f38, List.toList_toArray, seqA_n,seqA_r,seqA_x,blockA_n,blockA_r,blockA_x,loopTA_n,loopTA_r,loopTA_x,retA_n,retA_r]
          refine XA_of' ?_
          have hk0 : ¬ (keysI S 0).length < 0 := Nat.not_lt_zero _
          have hk' : ¬ ((keysI S 0).length : Int) < 0 := by omega
          rw [if_neg hk0] at hre' hrv'
          by_cases hm0 : 0 < m
          · have hm' : 0 < (m : Int) := by omega
            rw [if_pos hm0] at hre' hrv'
            have hre1 := hre'
            have hrv1 := hrv'
            clear hre' hrv' hre hrv hr hl hA hS hf
            (repeat' ((first | with_reducible (first | apply XR_append | apply XR_cons | apply XR_consG | apply XR_nil | apply XM_cons | apply XM_consG | apply XM_nil | apply cF_pure3 (by assumption) | apply cM_pure3 (by assumption) | apply cF_ev3 (by assumption) | apply cM_ev3 (by assumption)) | with_reducible (first | apply gRS (by with_unfolding_all rfl) | apply gR (by with_unfolding_all rfl) | apply gS (by with_unfolding_all rfl) | fail) | (with_reducible apply X_drawM (id := 8) 3 [] trH11n38x8; (next => (kernel_rfl)); (next => (kernel_rfl))) | refine X_of _ ?_ | with_reducible (first | exact ⟨_, rfl⟩ | refine And.intro ?_ ?_ | intro _)) <;> try simp -implicitDefEqProofs (maxSteps := 1000000) (disch := first | exact dz3 | fail) only [vcR, vcT, simprocAttr, Ab.part, implies_true, forall_const, true_or, Option.isNone_some, Option.isNone_none, vcXHb, Tryd.f38, List.toList_toArray, arr4_zero, nat4_set1, nat4_setL, nat4_set0, hk',hm',seqA_n,seqA_r,seqA_x,blockA_n,blockA_r,blockA_x,loopTA_n,loopTA_r,loopTA_x,retA_n,retA_r, trH11n38x8]))
            all_goals first | exact congrArg nat4 hrv1 | exact hre1 | exact ⟨congrArg nat4 hrv1, hre1⟩
          have hm' : ¬ 0 < (m : Int) := by omega
          rw [if_neg hm0] at hre' hrv'
          obtain ⟨hOP, hOQ⟩ := hG.gOdd
          have hMQ : Kn (ctxE Tryd.prog (modEvo 108) w B) (isMod 108 kq Q) := hG.gmq
          have hpl2 : ∀ q, pp q < 2 ^ 256 := fun q => by
            rw [← hpp]
            unfold pl
            split
            · unfold placeN; have := (hS (q / 2)).2; omega
            · exact hA _
          have e5 := atzero_e kq Q none 0 0 pp hOQ hpl2 (by decide)
          have e6 := clip_c none 0 0 (by decide) (Nat.le_refl 0)
          have hnz : Kn (ctxE Tryd.prog (modEvo 108) w B) (natsAt (modEvo 108) none (2 * 0) pp) := fun _ _ => .inl rfl
          have e7 := gQ_e k kx kq P Q G
          rw [hre', hrv'] at e5
          clear hre' hrv' hre hrv hr hl hA hS hf hpl2 hfs hp0 hp1
          (repeat' ((first | with_reducible (first | apply XR_append | apply XR_cons | apply XR_consG | apply XR_nil | apply XM_cons | apply XM_consG | apply XM_nil | apply cF_pure3 (by assumption) | apply cM_pure3 (by assumption) | apply cF_ev3 (by assumption) | apply cM_ev3 (by assumption)) | with_reducible (first | apply gRS (by with_unfolding_all rfl) | apply gR (by with_unfolding_all rfl) | apply gS (by with_unfolding_all rfl) | fail) | (with_reducible apply X_drawM (id := 8) 3 [] trH11n38x8; (next => (kernel_rfl)); (next => (kernel_rfl))) | refine X_of _ ?_ | with_reducible (first | exact ⟨_, rfl⟩ | refine And.intro ?_ ?_ | intro _)) <;> try simp -implicitDefEqProofs (maxSteps := 1000000) (disch := first | exact dz3 | fail) only [vcR, vcT, simprocAttr, Ab.part, implies_true, forall_const, true_or, Option.isNone_some, Option.isNone_none, vcXHb, Tryd.f38, List.toList_toArray, arr4_zero, nat4_set1, nat4_setL, nat4_set0, hk',hm',seqA_n,seqA_r,seqA_x,blockA_n,blockA_r,blockA_x,loopTA_n,loopTA_r,loopTA_x,retA_n,retA_r, trH11n38x8]))
          refine XA_of' ?_
          (repeat' ((first | with_reducible (first | apply XR_append | apply XR_cons | apply XR_consG | apply XR_nil | apply XM_cons | apply XM_consG | apply XM_nil | apply cF_pure3 (by assumption) | apply cM_pure3 (by assumption) | apply cF_ev3 (by assumption) | apply cM_ev3 (by assumption)) | with_reducible (first | apply gRS (by with_unfolding_all rfl) | apply gR (by with_unfolding_all rfl) | apply gS (by with_unfolding_all rfl) | fail) | (with_reducible apply X_drawM (id := 8) 3 [] trH11n38x8; (next => (kernel_rfl)); (next => (kernel_rfl))) | refine X_of _ ?_ | with_reducible (first | exact ⟨_, rfl⟩ | refine And.intro ?_ ?_ | intro _)) <;> try simp -implicitDefEqProofs (maxSteps := 1000000) (disch := first | exact dz3 | fail) only [vcR, vcT, simprocAttr, Ab.part, implies_true, forall_const, true_or, Option.isNone_some, Option.isNone_none, vcXHb, Tryd.f38, List.toList_toArray, arr4_zero, nat4_set1, nat4_setL, nat4_set0, seqA_n,seqA_r,seqA_x,blockA_n,blockA_r,blockA_x,loopTA_n,loopTA_r,loopTA_x,retA_n,retA_r, trH11n38x8]))
      · rw [rowH_s h0, rowS_s h0]
        obtain ⟨ad, rfl⟩ := hadr h0
        clear hadr
        obtain ⟨hkc, hsp⟩ := hrow h0
        clear hrow
        (repeat' ((first | with_reducible (first | apply XR_append | apply XR_cons | apply XR_consG | apply XR_nil | apply XM_cons | apply XM_consG | apply XM_nil | apply cF_pure3 (by assumption) | apply cM_pure3 (by assumption) | apply cF_ev3 (by assumption) | apply cM_ev3 (by assumption)) | with_reducible (first | apply gRS (by with_unfolding_all rfl) | apply gR (by with_unfolding_all rfl) | apply gS (by with_unfolding_all rfl) | fail) | (with_reducible apply X_drawM (id := 8) 3 [] trH11n38x8; (next => (kernel_rfl)); (next => (kernel_rfl))) | refine X_of _ ?_ | with_reducible (first | exact ⟨_, rfl⟩ | refine And.intro ?_ ?_ | intro _)) <;> try simp -implicitDefEqProofs (maxSteps := 1000000) (disch := first | exact dz3 | fail) only [vcR, vcT, simprocAttr, Ab.part, implies_true, forall_const, true_or, Option.isNone_some, Option.isNone_none, vcXHb, Tryd.f38, List.toList_toArray, arr4_zero, nat4_set1, nat4_setL, nat4_set0, loopT_r,loopT_x,seqA_n, trH11n38x8]))
        refine XA_seq (XA_reg (XAR_mkI fun b hb => ?_))
        try simp -implicitDefEqProofs (maxSteps := 1000000) (disch := first | exact dz3 | fail) only [vcR, vcT, simprocAttr, Ab.part, implies_true, forall_const, true_or, Option.isNone_some, Option.isNone_none, vcXHb, Tryd.f38, List.toList_toArray]
        refine XAR_step [0, 1] (steady_imap _ _) rfl (by simp <;> omega) (by simp) fun β2 w2 hR2 hA2 hK2 => ?_
        try simp -implicitDefEqProofs (maxSteps := 1000000) (disch := first | exact dz3 | fail) only [vcR, vcT, simprocAttr, Ab.part, implies_true, forall_const, true_or, Option.isNone_some, Option.isNone_none, vcXHb, Tryd.f38, List.toList_toArray]
        clear hK2 hA2 hR2 w2 β2
        refine XAR_nil ?_
        try simp -implicitDefEqProofs (maxSteps := 1000000) (disch := first | exact dz3 | fail) only [vcR, vcT, simprocAttr, Ab.part, implies_true, forall_const, true_or, Option.isNone_some, Option.isNone_none, vcXHb, Tryd.f38, List.toList_toArray, seqA_n]
        refine XA_seq (XA_seq (XA_X [0, 1] (steady_imap _ _) rfl (by simp <;> omega) (by simp) fun β1 w1 hR1 hA1 hK1 => ?_))
        (repeat' ((first | with_reducible (first | apply XR_append | apply XR_cons | apply XR_consG | apply XR_nil | apply XM_cons | apply XM_consG | apply XM_nil | apply cF_pure3 (by assumption) | apply cM_pure3 (by assumption) | apply cF_ev3 (by assumption) | apply cM_ev3 (by assumption)) | with_reducible (first | apply gRS (by with_unfolding_all rfl) | apply gR (by with_unfolding_all rfl) | apply gS (by with_unfolding_all rfl) | fail) | (with_reducible apply X_drawM (id := 8) 3 [] trH11n38x8; (next => (kernel_rfl)); (next => (kernel_rfl))) | refine X_of _ ?_ | with_reducible (first | exact ⟨_, rfl⟩ | refine And.intro ?_ ?_ | intro _)) <;> try simp -implicitDefEqProofs (maxSteps := 1000000) (disch := first | exact dz3 | fail) only [vcR, vcT, simprocAttr, Ab.part, implies_true, forall_const, true_or, Option.isNone_some, Option.isNone_none, vcXHb, Tryd.f38, List.toList_toArray, arr4_zero, nat4_set1, nat4_setL, nat4_set0, seqA_n,seqA_r,seqA_x,blockA_n,blockA_r,blockA_x,loopTA_n,loopTA_r,loopTA_x,retA_n,retA_r, trH11n38x8]))
        clear hK1 hA1 hR1 w1 β1
        refine XA_block (XA_loopT (ι := Nat) (fun j => j ≤ i) (fun j => i - j) [14, 42, 43, 44, 45, 46, 47, 48, 49]
          (fun j => [(42, .s (.v (.int .i64 (j : Nat))))]) (fun _ => [⟨24, nat4 0⟩, ⟨126, nats (2 * i) pp ++ List.map SV.v sp⟩]) (fun j => IMap b (keysI S j)) 0 ?_ (by decide) ?_ rfl ?_)
        · intro j hj
          refine ⟨by simp, ?_, by simp, ?_⟩
          · simp only [List.length_cons, List.length_nil, List.map_cons, List.map_nil, List.nodup_cons, List.nodup_nil, List.mem_cons, Nat.reduceAdd, Nat.reduceEqDiff, or_false, not_false_eq_true, forall_eq_or_imp, forall_eq, or_self, Nat.reduceLT, Nat.reduceLeDiff, and_self, List.forall_mem_cons, List.not_mem_nil, false_implies, implies_true, and_true, true_and, vcOHb]
          · simp only [List.forall_mem_cons]
            exact ⟨arr_ok _, row_all, fun x hx => by simp at hx⟩
        · refine ⟨Nat.zero_le _, [0, 1], ⟨by decide, rfl⟩, ?_, rfl, rfl, trivial⟩
          simp -implicitDefEqProofs (maxSteps := 1000000) (disch := first | exact dz3 | fail) only [vcR, vcT, simprocAttr, Ab.part, implies_true, forall_const, true_or, Option.isNone_some, Option.isNone_none, vcXHb, Tryd.f38, List.toList_toArray, renS_cons,renS_nil,ren_v]
        · intro j us2 hj
          by_cases hji : j < i
          · have hSj := hS j
            refine XA_seq (XA_X [0, 1] (steady_imap _ _) rfl (by simp <;> omega) (by simp) fun β1 w1 hR1 hA1 hK1 => ?_)
            (repeat' ((first | with_reducible (first | apply XR_append | apply XR_cons | apply XR_consG | apply XR_nil | apply XM_cons | apply XM_consG | apply XM_nil | apply cF_pure3 (by assumption) | apply cM_pure3 (by assumption) | apply cF_ev3 (by assumption) | apply cM_ev3 (by assumption)) | with_reducible (first | apply gRS (by with_unfolding_all rfl) | apply gR (by with_unfolding_all rfl) | apply gS (by with_unfolding_all rfl) | fail) | (with_reducible apply X_drawM (id := 8) 3 [] trH11n38x8; (next => (kernel_rfl)); (next => (kernel_rfl))) | refine X_of _ ?_ | with_reducible (first | exact ⟨_, rfl⟩ | refine And.intro ?_ ?_ | intro _)) <;> try simp -implicitDefEqProofs (maxSteps := 1000000) (disch := first | exact dz3 | fail) only [vcR, vcT, simprocAttr, Ab.part, implies_true, forall_const, true_or, Option.isNone_some, Option.isNone_none, vcXHb, Tryd.f38, List.toList_toArray, arr4_zero, nat4_set1, nat4_setL, nat4_set0, seqA_n,seqA_r,seqA_x,blockA_n,blockA_r,blockA_x,loopTA_n,loopTA_r,loopTA_x,retA_n,retA_r, trH11n38x8]))
            clear hK1 hA1 hR1 w1 β1
            refine XA_seq (XA_X [0, 1] (steady_imap _ _) rfl (by simp <;> omega) (by simp) fun β1 w1 hR1 hA1 hK1 => ?_)
            (repeat' ((first | with_reducible (first | apply XR_append | apply XR_cons | apply XR_consG | apply XR_nil | apply XM_cons | apply XM_consG | apply XM_nil | apply cF_pure3 (by assumption) | apply cM_pure3 (by assumption) | apply cF_ev3 (by assumption) | apply cM_ev3 (by assumption)) | with_reducible (first | apply gRS (by with_unfolding_all rfl) | apply gR (by with_unfolding_all rfl) | apply gS (by with_unfolding_all rfl) | fail) | (with_reducible apply X_drawM (id := 8) 3 [] trH11n38x8; (next => (kernel_rfl)); (next => (kernel_rfl))) | refine X_of _ ?_ | with_reducible (first | exact ⟨_, rfl⟩ | refine And.intro ?_ ?_ | intro _)) <;> try simp -implicitDefEqProofs (maxSteps := 1000000) (disch := first | exact dz3 | fail) only [vcR, vcT, simprocAttr, Ab.part, implies_true, forall_const, true_or, Option.isNone_some, Option.isNone_none, vcXHb, Tryd.f38, List.toList_toArray, arr4_zero, nat4_set1, nat4_setL, nat4_set0, seqA_n,seqA_r,seqA_x,blockA_n,blockA_r,blockA_x,loopTA_n,loopTA_r,loopTA_x,retA_n,retA_r, trH11n38x8]))
            clear hK1 hA1 hR1 w1 β1
            refine XA_seq (XA_block ?_)
            refine XA_seq ?_
            refine XA_X [0, 1] (steady_imap _ _) rfl (by simp <;> omega) (by simp) fun β1 w1 hR1 hA1 hK1 => ?_
            have hx : ∀ {K : TV → HE → Prop}, xext ((ctxE Tryd.prog (modEvo 108) w B).after (ctxE Tryd.prog (modEvo 108) w B).ev (ctxE Tryd.prog (modEvo 108) w B).B w1 β1 [0, 1]) (some true) 5 (ad.add (j * 5)) K = K (.agg (pieceC (S j) (A j))) .none := fun {K} => Kn.pcs (hK1 _ hY) hji
            (repeat' ((first | with_reducible (first | apply XR_append | apply XR_cons | apply XR_consG | apply XR_nil | apply XM_cons | apply XM_consG | apply XM_nil | apply cF_pure3 (by assumption) | apply cM_pure3 (by assumption) | apply cF_ev3 (by assumption) | apply cM_ev3 (by assumption)) | with_reducible (first | apply gRS (by with_unfolding_all rfl) | apply gR (by with_unfolding_all rfl) | apply gS (by with_unfolding_all rfl) | fail) | (with_reducible apply X_drawM (id := 8) 3 [] trH11n38x8; (next => (kernel_rfl)); (next => (kernel_rfl))) | refine X_of _ ?_ | with_reducible (first | exact ⟨_, rfl⟩ | refine And.intro ?_ ?_ | intro _)) <;> try simp -implicitDefEqProofs (maxSteps := 1000000) (disch := first | exact dz3 | fail) only [vcR, vcT, simprocAttr, Ab.part, implies_true, forall_const, true_or, Option.isNone_some, Option.isNone_none, vcXHb, Tryd.f38, List.toList_toArray, arr4_zero, nat4_set1, nat4_setL, nat4_set0, hx,seqA_n,seqA_r,seqA_x,blockA_n,blockA_r,blockA_x,loopTA_n,loopTA_r,loopTA_x,retA_n,retA_r, trH11n38x8]))
            clear hx
            clear hK1 hA1 hR1 w1 β1
            refine XA_reg ?_
            try simp -implicitDefEqProofs (maxSteps := 1000000) (disch := first | exact dz3 | fail) only [vcR, vcT, simprocAttr, Ab.part, implies_true, forall_const, true_or, Option.isNone_some, Option.isNone_none, vcXHb, Tryd.f38, List.toList_toArray]
            refine XAR_step [0, 1, 2] (steady_imap _ _) rfl (by simp <;> omega) (by simp) fun β2 w2 hR2 hA2 hK2 => ?_
            try simp -implicitDefEqProofs (maxSteps := 1000000) (disch := first | exact dz3 | fail) only [vcR, vcT, simprocAttr, Ab.part, implies_true, forall_const, true_or, Option.isNone_some, Option.isNone_none, vcXHb, Tryd.f38, List.toList_toArray]
            clear hK2 hA2 hR2 w2 β2
            refine XAR_step [0, 1, 2] (steady_imap _ _) rfl (by simp <;> omega) (by simp) fun β2 w2 hR2 hA2 hK2 => ?_
            try simp -implicitDefEqProofs (maxSteps := 1000000) (disch := first | exact dz3 | fail) only [vcR, vcT, simprocAttr, Ab.part, implies_true, forall_const, true_or, Option.isNone_some, Option.isNone_none, vcXHb, Tryd.f38, List.toList_toArray]
            clear hK2 hA2 hR2 w2 β2
            refine XAR_step [0, 1, 2] (steady_imap _ _) rfl (by simp <;> omega) (by simp) fun β2 w2 hR2 hA2 hK2 => ?_
            try simp -implicitDefEqProofs (maxSteps := 1000000) (disch := first | exact dz3 | fail) only [vcR, vcT, simprocAttr, Ab.part, implies_true, forall_const, true_or, Option.isNone_some, Option.isNone_none, vcXHb, Tryd.f38, List.toList_toArray]
            clear hK2 hA2 hR2 w2 β2
            refine XAR_putI mapTyI (.inl rfl) hb hSj.1 hSj.2 rfl rfl ?_
            try simp -implicitDefEqProofs (maxSteps := 1000000) (disch := first | exact dz3 | fail) only [vcR, vcT, simprocAttr, Ab.part, implies_true, forall_const, true_or, Option.isNone_some, Option.isNone_none, vcXHb, Tryd.f38, List.toList_toArray]
            refine XAR_nil ?_
            try simp -implicitDefEqProofs (maxSteps := 1000000) (disch := first | exact dz3 | fail) only [vcR, vcT, simprocAttr, Ab.part, implies_true, forall_const, true_or, Option.isNone_some, Option.isNone_none, vcXHb, Tryd.f38, List.toList_toArray, seqA_n,seqA_r,seqA_x,blockA_n,blockA_r,blockA_x,loopTA_n,loopTA_r,loopTA_x,retA_n,retA_r]
            refine XA_X [0, 1, 2] (steady_imap _ _) rfl (by simp <;> omega) (by simp) fun β1 w1 hR1 hA1 hK1 => ?_
            (repeat' ((first | with_reducible (first | apply XR_append | apply XR_cons | apply XR_consG | apply XR_nil | apply XM_cons | apply XM_consG | apply XM_nil | apply cF_pure3 (by assumption) | apply cM_pure3 (by assumption) | apply cF_ev3 (by assumption) | apply cM_ev3 (by assumption)) | with_reducible (first | apply gRS (by with_unfolding_all rfl) | apply gR (by with_unfolding_all rfl) | apply gS (by with_unfolding_all rfl) | fail) | (with_reducible apply X_drawM (id := 8) 3 [] trH11n38x8; (next => (kernel_rfl)); (next => (kernel_rfl))) | refine X_of _ ?_ | with_reducible (first | exact ⟨_, rfl⟩ | refine And.intro ?_ ?_ | intro _)) <;> try simp -implicitDefEqProofs (maxSteps := 1000000) (disch := first | exact dz3 | fail) only [vcR, vcT, simprocAttr, Ab.part, implies_true, forall_const, true_or, Option.isNone_some, Option.isNone_none, vcXHb, Tryd.f38, List.toList_toArray, arr4_zero, nat4_set1, nat4_setL, nat4_set0, seqA_n,seqA_r,seqA_x,blockA_n,blockA_r,blockA_x,loopTA_n,loopTA_r,loopTA_x,retA_n,retA_r, trH11n38x8]))
            clear hK1 hA1 hR1 w1 β1
            refine ⟨j + 1, by omega, ⟨by omega, [0, 1], ⟨by decide, rfl⟩, ?_, rfl, rfl, trivial⟩, rfl⟩
            simp -implicitDefEqProofs (maxSteps := 1000000) (disch := first | exact dz3 | fail) only [vcR, vcT, simprocAttr, Ab.part, implies_true, forall_const, true_or, Option.isNone_some, Option.isNone_none, vcXHb, Tryd.f38, List.toList_toArray, renS_cons,renS_nil,ren_v]
          · have : j = i := by omega
            subst this
            refine XA_seq (XA_X [0, 1] (steady_imap _ _) rfl (by simp <;> omega) (by simp) fun β1 w1 hR1 hA1 hK1 => ?_)
            (repeat' ((first | with_reducible (first | apply XR_append | apply XR_cons | apply XR_consG | apply XR_nil | apply XM_cons | apply XM_consG | apply XM_nil | apply cF_pure3 (by assumption) | apply cM_pure3 (by assumption) | apply cF_ev3 (by assumption) | apply cM_ev3 (by assumption)) | with_reducible (first | apply gRS (by with_unfolding_all rfl) | apply gR (by with_unfolding_all rfl) | apply gS (by with_unfolding_all rfl) | fail) | (with_reducible apply X_drawM (id := 8) 3 [] trH11n38x8; (next => (kernel_rfl)); (next => (kernel_rfl))) | refine X_of _ ?_ | with_reducible (first | exact ⟨_, rfl⟩ | refine And.intro ?_ ?_ | intro _)) <;> try simp -implicitDefEqProofs (maxSteps := 1000000) (disch := first | exact dz3 | fail) only [vcR, vcT, simprocAttr, Ab.part, implies_true, forall_const, true_or, Option.isNone_some, Option.isNone_none, vcXHb, Tryd.f38, List.toList_toArray, arr4_zero, nat4_set1, nat4_setL, nat4_set0, seqA_n,seqA_r,seqA_x,blockA_n,blockA_r,blockA_x,loopTA_n,loopTA_r,loopTA_x,retA_n,retA_r, trH11n38x8]))
            clear hK1 hA1 hR1 w1 β1
            refine XA_seq (XA_X [0, 1] (steady_imap _ _) rfl (by simp <;> omega) (by simp) fun β1 w1 hR1 hA1 hK1 => ?_)
            (repeat' ((first | with_reducible (first | apply XR_append | apply XR_cons | apply XR_consG | apply XR_nil | apply XM_cons | apply XM_consG | apply XM_nil | apply cF_pure3 (by assumption) | apply cM_pure3 (by assumption) | apply cF_ev3 (by assumption) | apply cM_ev3 (by assumption)) | with_reducible (first | apply gRS (by with_unfolding_all rfl) | apply gR (by with_unfolding_all rfl) | apply gS (by with_unfolding_all rfl) | fail) | (with_reducible apply X_drawM (id := 8) 3 [] trH11n38x8; (next => (kernel_rfl)); (next => (kernel_rfl))) | refine X_of _ ?_ | with_reducible (first | exact ⟨_, rfl⟩ | refine And.intro ?_ ?_ | intro _)) <;> try simp -implicitDefEqProofs (maxSteps := 1000000) (disch := first | exact dz3 | fail) only [vcR, vcT, simprocAttr, Ab.part, implies_true, forall_const, true_or, Option.isNone_some, Option.isNone_none, vcXHb, Tryd.f38, List.toList_toArray, arr4_zero, nat4_set1, nat4_setL, nat4_set0, seqA_n,seqA_r,seqA_x,blockA_n,blockA_r,blockA_x,loopTA_n,loopTA_r,loopTA_x,retA_n,retA_r, trH11n38x8]))
            clear hK1 hA1 hR1 w1 β1
            refine XA_seq (XA_block (XA_seq (XA_reg ?_)))
            try simp -implicitDefEqProofs (maxSteps := 1000000) (disch := first | exact dz3 | fail) only [vcR, vcT, simprocAttr, Ab.part, implies_true, forall_const, true_or, Option.isNone_some, Option.isNone_none, vcXHb, Tryd.f38, List.toList_toArray]
            refine XAR_step [0, 1] (steady_imap _ _) rfl (by simp <;> omega) (by simp) fun β2 w2 hR2 hA2 hK2 => ?_
            try simp -implicitDefEqProofs (maxSteps := 1000000) (disch := first | exact dz3 | fail) only [vcR, vcT, simprocAttr, Ab.part, implies_true, forall_const, true_or, Option.isNone_some, Option.isNone_none, vcXHb, Tryd.f38, List.toList_toArray]
            clear hK2 hA2 hR2 w2 β2
            refine XAR_lenI mapTyI rfl ?_
            try simp -implicitDefEqProofs (maxSteps := 1000000) (disch := first | exact dz3 | fail) only [vcR, vcT, simprocAttr, Ab.part, implies_true, forall_const, true_or, Option.isNone_some, Option.isNone_none, vcXHb, Tryd.f38, List.toList_toArray]
            refine XAR_step [0, 1] (steady_imap _ _) rfl (by simp <;> omega) (by simp) fun β2 w2 hR2 hA2 hK2 => ?_
            try simp -implicitDefEqProofs (maxSteps := 1000000) (disch := first | exact dz3 | fail) only [vcR, vcT, simprocAttr, Ab.part, implies_true, forall_const, true_or, Option.isNone_some, Option.isNone_none, vcXHb, Tryd.f38, List.toList_toArray]
            clear hK2 hA2 hR2 w2 β2
            refine XAR_step [0, 1] (steady_imap _ _) rfl (by simp <;> omega) (by simp) fun β2 w2 hR2 hA2 hK2 => ?_
            try simp -implicitDefEqProofs (maxSteps := 1000000) (disch := first | exact dz3 | fail) only [vcR, vcT, simprocAttr, Ab.part, implies_true, forall_const, true_or, Option.isNone_some, Option.isNone_none, vcXHb, Tryd.f38, List.toList_toArray]
            clear hK2 hA2 hR2 w2 β2
            refine XAR_step [0, 1] (steady_imap _ _) rfl (by simp <;> omega) (by simp) fun β2 w2 hR2 hA2 hK2 => ?_
            try simp -implicitDefEqProofs (maxSteps := 1000000) (disch := first | exact dz3 | fail) only [vcR, vcT, simprocAttr, Ab.part, implies_true, forall_const, true_or, Option.isNone_some, Option.isNone_none, vcXHb, Tryd.f38, List.toList_toArray]
            clear hK2 hA2 hR2 w2 β2
            refine XAR_step [0, 1] (steady_imap _ _) rfl (by simp <;> omega) (by simp) fun β2 w2 hR2 hA2 hK2 => ?_
            try simp -implicitDefEqProofs (maxSteps := 1000000) (disch := first | exact dz3 | fail) only [vcR, vcT, simprocAttr, Ab.part, implies_true, forall_const, true_or, Option.isNone_some, Option.isNone_none, vcXHb, Tryd.f38, List.toList_toArray]
            clear hK2 hA2 hR2 w2 β2
            refine XAR_nil ?_
            try simp -implicitDefEqProofs (maxSteps := 1000000) (disch := first | exact dz3 | fail) only [vcR, vcT, simprocAttr, Ab.part, implies_true, forall_const, true_or, Option.isNone_some, Option.isNone_none, vcXHb, Tryd.f38, List.toList_toArray, seqA_n,seqA_r,seqA_x,blockA_n,blockA_r,blockA_x,loopTA_n,loopTA_r,loopTA_x,retA_n,retA_r]
            refine XA_of' ?_
            by_cases hk0 : (keysI S j).length < j
            · have hk' : ((keysI S j).length : Int) < (j : Int) := by omega
              rw [if_pos hk0] at hre' hrv'
              have hre1 := hre'
              have hrv1 := hrv'
              clear hre' hrv' hre hrv hr hl hA hS hf
              (repeat' ((first | with_reducible (first | apply XR_append | apply XR_cons | apply XR_consG | apply XR_nil | apply XM_cons | apply XM_consG | apply XM_nil | apply cF_pure3 (by assumption) | apply cM_pure3 (by assumption) | apply cF_ev3 (by assumption) | apply cM_ev3 (by assumption)) | with_reducible (first | apply gRS (by with_unfolding_all rfl) | apply gR (by with_unfolding_all rfl) | apply gS (by with_unfolding_all rfl) | fail) | (with_reducible apply X_drawM (id := 8) 3 [] trH11n38x8; (next => (kernel_rfl)); (next => (kernel_rfl))) | refine X_of _ ?_ | with_reducible (first | exact ⟨_, rfl⟩ | refine And.intro ?_ ?_ | intro _)) <;> try simp -implicitDefEqProofs (maxSteps := 1000000) (disch := first | exact dz3 | fail) only [vcR, vcT, simprocAttr, Ab.part, implies_true, forall_const, true_or, Option.isNone_some, Option.isNone_none, vcXHb, Tryd.f38, List.toList_toArray, arr4_zero, nat4_set1, nat4_setL, nat4_set0, hk',seqA_n,seqA_r,seqA_x,blockA_n,blockA_r,blockA_x,loopTA_n,loopTA_r,loopTA_x,retA_n,retA_r, trH11n38x8]))
              all_goals first | exact congrArg nat4 hrv1 | exact hre1 | exact ⟨congrArg nat4 hrv1, hre1⟩
            have hk' : ¬ ((keysI S j).length : Int) < (j : Int) := by omega
            rw [if_neg hk0] at hre' hrv'
            by_cases hm0 : j < m
            · have hm' : (j : Int) < (m : Int) := by omega
              rw [if_pos hm0] at hre' hrv'
              have hre1 := hre'
              have hrv1 := hrv'
              clear hre' hrv' hre hrv hr hl hA hS hf
              (repeat' ((first | with_reducible (first | apply XR_append | apply XR_cons | apply XR_consG | apply XR_nil | apply XM_cons | apply XM_consG | apply XM_nil | apply cF_pure3 (by assumption) | apply cM_pure3 (by assumption) | apply cF_ev3 (by assumption) | apply cM_ev3 (by assumption)) | with_reducible (first | apply gRS (by with_unfolding_all rfl) | apply gR (by with_unfolding_all rfl) | apply gS (by with_unfolding_all rfl) | fail) | (with_reducible apply X_drawM (id := 8) 3 [] trH11n38x8; (next => (kernel_rfl)); (next => (kernel_rfl))) | refine X_of _ ?_ | with_reducible (first | exact ⟨_, rfl⟩ | refine And.intro ?_ ?_ | intro _)) <;> try simp -implicitDefEqProofs (maxSteps := 1000000) (disch := first | exact dz3 | fail) only [vcR, vcT, simprocAttr, Ab.part, implies_true, forall_const, true_or, Option.isNone_some, Option.isNone_none, vcXHb, Tryd.f38, List.toList_toArray, arr4_zero, nat4_set1, nat4_setL, nat4_set0, hk',hm',seqA_n,seqA_r,seqA_x,blockA_n,blockA_r,blockA_x,loopTA_n,loopTA_r,loopTA_x,retA_n,retA_r, trH11n38x8]))
              all_goals first | exact congrArg nat4 hrv1 | exact hre1 | exact ⟨congrArg nat4 hrv1, hre1⟩
            have hm' : ¬ (j : Int) < (m : Int) := by omega
            rw [if_neg hm0] at hre' hrv'
            obtain ⟨hOP, hOQ⟩ := hG.gOdd
            have hMQ : Kn (ctxE Tryd.prog (modEvo 108) w B) (isMod 108 kq Q) := hG.gmq
            have hpl2 : ∀ q, pp q < 2 ^ 256 := fun q => by
              rw [← hpp]
              unfold pl
              split
              · unfold placeN; have := (hS (q / 2)).2; omega
              · exact hA _
            have e5 := fun ad : Addr => atzero_e kq Q (some ad) j j pp hOQ hpl2 (by omega)
            have e7 := gQ_e k kx kq P Q G
            rw [hre', hrv'] at e5
            clear hre' hrv' hre hrv hr hl hA hS hf hpl2 hfs hp0 hp1
            (repeat' ((first | with_reducible (first | apply XR_append | apply XR_cons | apply XR_consG | apply XR_nil | apply XM_cons | apply XM_consG | apply XM_nil | apply cF_pure3 (by assumption) | apply cM_pure3 (by assumption) | apply cF_ev3 (by assumption) | apply cM_ev3 (by assumption)) | with_reducible (first | apply gRS (by with_unfolding_all rfl) | apply gR (by with_unfolding_all rfl) | apply gS (by with_unfolding_all rfl) | fail) | (with_reducible apply X_drawM (id := 8) 3 [] trH11n38x8; (next => (kernel_rfl)); (next => (kernel_rfl))) | refine X_of _ ?_ | with_reducible (first | exact ⟨_, rfl⟩ | refine And.intro ?_ ?_ | intro _)) <;> try simp -implicitDefEqProofs (maxSteps := 1000000) (disch := first | exact dz3 | fail) only [vcR, vcT, simprocAttr, Ab.part, implies_true, forall_const, true_or, Option.isNone_some, Option.isNone_none, vcXHb, Tryd.f38, List.toList_toArray, arr4_zero, nat4_set1, nat4_setL, nat4_set0, hk',hm',seqA_n,seqA_r,seqA_x,blockA_n,blockA_r,blockA_x,loopTA_n,loopTA_r,loopTA_x,retA_n,retA_r, trH11n38x8]))
            refine XA_of' ?_
            (repeat' ((first | with_reducible (first | apply XR_append | apply XR_cons | apply XR_consG | apply XR_nil | apply XM_cons | apply XM_consG | apply XM_nil | apply cF_pure3 (by assumption) | apply cM_pure3 (by assumption) | apply cF_ev3 (by assumption) | apply cM_ev3 (by assumption)) | with_reducible (first | apply gRS (by with_unfolding_all rfl) | apply gR (by with_unfolding_all rfl) | apply gS (by with_unfolding_all rfl) | fail) | (with_reducible apply X_drawM (id := 8) 3 [] trH11n38x8; (next => (kernel_rfl)); (next => (kernel_rfl))) | refine X_of _ ?_ | with_reducible (first | exact ⟨_, rfl⟩ | refine And.intro ?_ ?_ | intro _)) <;> try simp -implicitDefEqProofs (maxSteps := 1000000) (disch := first | exact dz3 | fail) only [vcR, vcT, simprocAttr, Ab.part, implies_true, forall_const, true_or, Option.isNone_some, Option.isNone_none, vcXHb, Tryd.f38, List.toList_toArray, arr4_zero, nat4_set1, nat4_setL, nat4_set0, seqA_n,seqA_r,seqA_x,blockA_n,blockA_r,blockA_x,loopTA_n,loopTA_r,loopTA_x,retA_n,retA_r, trH11n38x8]))
            refine xcall_thaw (r := .s (.sl 1 0 j j)) (by kernel_rfl) (fun β => clip_c (some ⟨β 1, 0, none⟩) j c' (by omega) hkc) (by show 1 < 2; decide) ?_
            try simp -implicitDefEqProofs (maxSteps := 1000000) (disch := first | exact dz3 | fail) only [vcR, vcT, simprocAttr, Ab.part, implies_true, forall_const, true_or, Option.isNone_some, Option.isNone_none, vcXHb, Tryd.f38, List.toList_toArray]
            (repeat' ((first | with_reducible (first | apply XR_append | apply XR_cons | apply XR_consG | apply XR_nil | apply XM_cons | apply XM_consG | apply XM_nil | apply cF_pure3 (by assumption) | apply cM_pure3 (by assumption) | apply cF_ev3 (by assumption) | apply cM_ev3 (by assumption)) | with_reducible (first | apply gRS (by with_unfolding_all rfl) | apply gR (by with_unfolding_all rfl) | apply gS (by with_unfolding_all rfl) | fail) | (with_reducible apply X_drawM (id := 8) 3 [] trH11n38x8; (next => (kernel_rfl)); (next => (kernel_rfl))) | refine X_of _ ?_ | with_reducible (first | exact ⟨_, rfl⟩ | refine And.intro ?_ ?_ | intro _)) <;> try simp -implicitDefEqProofs (maxSteps := 1000000) (disch := first | exact dz3 | fail) only [vcR, vcT, simprocAttr, Ab.part, implies_true, forall_const, true_or, Option.isNone_some, Option.isNone_none, vcXHb, Tryd.f38, List.toList_toArray, arr4_zero, nat4_set1, nat4_setL, nat4_set0, trH11n38x8]))
            refine yF_evz (fun β w' hR => ⟨_, e5 ⟨β 1, 0, none⟩, hMQ w' hR.fr.to, natsAt_own hR rfl (by decide)⟩) rfl rfl (by kernel_rfl) ?_
            try simp -implicitDefEqProofs (maxSteps := 1000000) (disch := first | exact dz3 | fail) only [vcR, vcT, simprocAttr, Ab.part, implies_true, forall_const, true_or, Option.isNone_some, Option.isNone_none, vcXHb, Tryd.f38, List.toList_toArray]
            (repeat' ((first | with_reducible (first | apply XR_append | apply XR_cons | apply XR_consG | apply XR_nil | apply XM_cons | apply XM_consG | apply XM_nil | apply cF_pure3 (by assumption) | apply cM_pure3 (by assumption) | apply cF_ev3 (by assumption) | apply cM_ev3 (by assumption)) | with_reducible (first | apply gRS (by with_unfolding_all rfl) | apply gR (by with_unfolding_all rfl) | apply gS (by with_unfolding_all rfl) | fail) | (with_reducible apply X_drawM (id := 8) 3 [] trH11n38x8; (next => (kernel_rfl)); (next => (kernel_rfl))) | refine X_of _ ?_ | with_reducible (first | exact ⟨_, rfl⟩ | refine And.intro ?_ ?_ | intro _)) <;> try simp -implicitDefEqProofs (maxSteps := 1000000) (disch := first | exact dz3 | fail) only [vcR, vcT, simprocAttr, Ab.part, implies_true, forall_const, true_or, Option.isNone_some, Option.isNone_none, vcXHb, Tryd.f38, List.toList_toArray, arr4_zero, nat4_set1, nat4_setL, nat4_set0, seqA_n,seqA_r,seqA_x,blockA_n,blockA_r,blockA_x,loopTA_n,loopTA_r,loopTA_x,retA_n,retA_r, trH11n38x8]))
end Go.Proofs.YtdmcknmjdlghgaaDoor
