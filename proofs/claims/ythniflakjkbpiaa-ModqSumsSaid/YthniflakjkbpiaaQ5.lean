/-
  modq: what values count for.
-/
import Derived.Test.YthniflakjkbpiaaQ4
namespace Go.Proofs.Ythniflakjkbpiaa
open Go Go.Ab
set_option linter.unusedSimpArgs false
set_option linter.unusedVariables false
set_option linter.defProp false
set_option maxHeartbeats 20000000
set_option maxRecDepth 100000

theorem ap_nat (n : Nat) (hn : n ≤ 1000000) : apOK Try.prog 24 n := by
  have h1 : (Try.prog.info? 24).map (fun i => (i.bytes, i.size, i.zero.map fun z => z.cells.size)) = some (32, 4, some 4) := by kernel_rfl
  cases hi : Try.prog.info? 24 with
  | none => rw [hi] at h1; cases h1
  | some i =>
    rw [hi] at h1
    simp only [Option.map_some, Option.some.injEq, Prod.mk.injEq] at h1
    obtain ⟨h2, h3, h4⟩ := h1
    obtain ⟨z, hz, hz4⟩ := Option.map_eq_some_iff.1 h4
    exact ⟨i, z, hi, hz, by rw [hz4, h3], by rw [h2]; omega, by omega⟩
theorem sz_nat : sz Try.prog 24 = 4 := by kernel_rfl
theorem news_nat {H : Heap} {k t a n : Nat} (hn : n = 4) (hb : H[k]? = some ⟨t, nat4 a⟩) : newsOf H n (.s (.sl k 0 1 1)) = some (nat4 a, 1) := by
  subst hn
  have hl : (nat4 a).length = 4 := nat4_length
  have h4 : (nat4 a).take 4 = nat4 a := List.take_of_length_le (by omega)
  simp [newsOf, hb, hl, part_eq, h4]
theorem one_set (a : Nat) : setAt (nat4 0) 0 (nat4 a) = nat4 a := rfl
/-- A slice's beginning. -/
theorem xslice_pre {arr : Option (Nat × TypeId)} {e : TypeId} {sz : TypeId → Nat} {ad : Addr} {n c i : Nat} {k : IntKind} {K : TV → Prop} (h : i ≤ c) :
    xslice arr (some e) sz (.s (.v (.slice (some ad) n c))) none (some (.s (.v (.int k (i : Int))))) K = K (.s (.v (.slice (some ad) i c))) := by
  have hb : bnd n (some (.s (.v (.int k (i : Int))))) = some i := by rw [bnd_int (by omega)]; rfl
  rw [xslice_v, hb, bnd_none, xslB_some]
  have e1 : (if c = 0 then some ad else Option.map (fun x => x.add (0 * sz e)) (some ad)) = some ad := by
    split
    · rfl
    · rw [Nat.zero_mul, Option.map_some]; exact congrArg some (by cases ad; rfl)
  rw [e1, Nat.sub_zero, Nat.sub_zero]
  exact propext ⟨fun h => h.2, fun h' => ⟨⟨Nat.zero_le _, h⟩, h'⟩⟩


theorem weights_n (kb m : Nat) (x : Option Addr) (n c : Nat) (l : Nat → Nat) (hG : OddM m) (hl : ∀ i, l i < 2 ^ 256) (hn : n ≤ 100) (hc : n ≤ c) :
    EvN (modEvo 78) Try.prog 46 [.s (.v (.pointer (some ⟨kb, 0, none⟩))), .s (.v (.slice x n c))] (fun B w => isMod 78 kb m B w ∧ natsAt (modEvo 78) x n l B w)
      (wOut 24 m l n) := by
  (refine evN_of Try.func46 rfl (by simp only [List.length_cons, List.length_nil, List.map_cons, List.map_nil, List.nodup_cons, List.nodup_nil, List.mem_cons, Nat.reduceAdd, Nat.reduceEqDiff, or_false, not_false_eq_true, forall_eq_or_imp, forall_eq, or_self, Nat.reduceLT, Nat.reduceLeDiff, and_self, List.forall_mem_cons, List.not_mem_nil, false_implies, implies_true, and_true, true_and, vcOAb25]) fun B w hpre => ?_; simp only [List.length_cons, List.length_nil, Try.ntmps46, Nat.reduceAdd, Nat.reduceSub, List.replicate_succ, List.replicate_zero, List.cons_append, List.nil_append])
  have hM : Kn (ctxE Try.prog (modEvo 78) w B) (isMod 78 kb m) := Kn.entry (isMod_stays _ kb m) hpre.1
  have hN : Kn (ctxE Try.prog (modEvo 78) w B) (natsAt (modEvo 78) x n l) := Kn.entry (natsAt_stays _ x n l) hpre.2
  have hx0 := hpre.2
  clear hpre
  have hz1 : slice0 Try.prog 24 1 = some (arr 4 fun _ => 0) := by kernel_rfl
  have hadr : n ≠ 0 → ∃ ad, x = some ad := fun h => by
    rcases hx0 with h0 | ⟨ad, h0, _⟩
    · omega
    · exact ⟨ad, h0⟩
  clear hx0
  (repeat' ((first | with_reducible (first | apply XR_append | apply XR_slice | apply XR_cons | apply XR_consG | apply XR_nil | apply cF_pure (by assumption) | apply cF_ev (by assumption) | apply cF_ev (minus_e _ _ _ _ bd bd bd)) | with_reducible (first | apply X_regRS (id := 4) | apply X_regR (id := 4) | apply X_seqX (x := .seq (.region 4 _ false) _) | apply X_seqX (x := .seq (.seq (.region 4 _ false) _) _) | apply X_regRS (id := 15) | apply X_regR (id := 15) | apply X_seqX (x := .seq (.region 15 _ false) _) | apply X_seqX (x := .seq (.seq (.region 15 _ false) _) _) | apply X_regRS (id := 18) | apply X_regR (id := 18) | apply X_seqX (x := .seq (.region 18 _ false) _) | apply X_seqX (x := .seq (.seq (.region 18 _ false) _) _)) | refine X_of _ ?_ | with_reducible (first | exact ⟨_, rfl⟩ | refine And.intro ?_ ?_ | intro _)) <;> try simp -implicitDefEqProofs (maxSteps := 1000000) (disch := first | exact dz | fail) only [vcR, vcT, Int.reduceBEq, Int.reduceBNe, Int.reduceEq, Int.reduceNe, Ab.part, Nat.reduceAdd, Nat.reduceMul, Nat.reduceLeDiff, Nat.reduceEqDiff, Nat.reduceBEq, Nat.reduceBNe, reduceCtorEq, ↓reduceIte, implies_true, forall_const, Int.reduceNeg, Int.reduceToNat, Int.reduceLT, Int.reduceLE, Int.reduceAdd, Int.reduceSub, Int.reduceMul, Int.reducePow, Nat.reducePow, true_or, Option.isNone_some, Option.isNone_none, vcXAb25, Try.f46, List.toList_toArray, arr4_zero, nat4_set1, nat4_setL, nat4_set0]))
  refine X_loop (ι := Nat) (fun i => i ≤ n ∧ sm m l i = false) (fun i => n - i) [6, 7, 9, 16, 17, 18, 19, 20, 21, 22, 23, 24, 25, 26, 27, 28, 29, 30, 31, 32, 33, 34, 35, 36]
    (fun i => [(16, .s (.v (.int .i64 (i : Nat))))])
    (fun i => []) 0 (shape_of fun i => ?_) (by decide) ?_ ?_
  · simp only [List.length_cons, List.length_nil, List.map_cons, List.map_nil, List.nodup_cons, List.nodup_nil, List.mem_cons, Nat.reduceAdd, Nat.reduceEqDiff, or_false, not_false_eq_true, forall_eq_or_imp, forall_eq, or_self, Nat.reduceLT, Nat.reduceLeDiff, and_self, List.forall_mem_cons, List.not_mem_nil, false_implies, implies_true, and_true, true_and, vcOAb25]
  · simp -implicitDefEqProofs (maxSteps := 1000000) (disch := first | exact dz | fail) only [vcR, vcT, Int.reduceBEq, Int.reduceBNe, Int.reduceEq, Int.reduceNe, Ab.part, Nat.reduceAdd, Nat.reduceMul, Nat.reduceLeDiff, Nat.reduceEqDiff, Nat.reduceBEq, Nat.reduceBNe, reduceCtorEq, ↓reduceIte, implies_true, forall_const, Int.reduceNeg, Int.reduceToNat, Int.reduceLT, Int.reduceLE, Int.reduceAdd, Int.reduceSub, Int.reduceMul, Int.reducePow, Nat.reducePow, true_or, Option.isNone_some, Option.isNone_none, vcXAb25, Try.f46, List.toList_toArray, again_eq]
    try simp
    all_goals rfl
  · intro i us ⟨hi, hsm⟩
    by_cases h : i < n
    · obtain ⟨ad, rfl⟩ := hadr (by omega)
      have hx : ∀ {K : TV → HE → Prop}, xext (ctxE Try.prog (modEvo 78) w B) (some true) 4 (ad.add (i * 4)) K = K (.agg (nat4 (l i))) .none := fun {K} => hN.nat h
      have hli := hl i
      have hpre : ∀ {arr : Option (Nat × TypeId)} {e : TypeId} {sz : TypeId → Nat} {k : IntKind} {K : TV → Prop}, xslice arr (some e) sz (.s (.v (.slice (some ad) n c))) none (some (.s (.v (.int k (i : Int))))) K = K (.s (.v (.slice (some ad) i c))) := xslice_pre (by omega)
      (repeat' ((first | with_reducible (first | apply XR_append | apply XR_slice | apply XR_cons | apply XR_consG | apply XR_nil | apply cF_pure (by assumption) | apply cF_ev (by assumption) | apply cF_ev (minus_e _ _ _ _ bd bd bd)) | with_reducible (first | apply X_regRS (id := 4) | apply X_regR (id := 4) | apply X_seqX (x := .seq (.region 4 _ false) _) | apply X_seqX (x := .seq (.seq (.region 4 _ false) _) _) | apply X_regRS (id := 15) | apply X_regR (id := 15) | apply X_seqX (x := .seq (.region 15 _ false) _) | apply X_seqX (x := .seq (.seq (.region 15 _ false) _) _) | apply X_regRS (id := 18) | apply X_regR (id := 18) | apply X_seqX (x := .seq (.region 18 _ false) _) | apply X_seqX (x := .seq (.seq (.region 18 _ false) _) _)) | refine X_of _ ?_ | with_reducible (first | exact ⟨_, rfl⟩ | refine And.intro ?_ ?_ | intro _)) <;> try simp -implicitDefEqProofs (maxSteps := 1000000) (disch := first | exact dz | fail) only [vcR, vcT, Int.reduceBEq, Int.reduceBNe, Int.reduceEq, Int.reduceNe, Ab.part, Nat.reduceAdd, Nat.reduceMul, Nat.reduceLeDiff, Nat.reduceEqDiff, Nat.reduceBEq, Nat.reduceBNe, reduceCtorEq, ↓reduceIte, implies_true, forall_const, Int.reduceNeg, Int.reduceToNat, Int.reduceLT, Int.reduceLE, Int.reduceAdd, Int.reduceSub, Int.reduceMul, Int.reducePow, Nat.reducePow, true_or, Option.isNone_some, Option.isNone_none, vcXAb25, Try.f46, List.toList_toArray, arr4_zero, nat4_set1, nat4_setL, nat4_set0, hx,hpre]))
      refine X_loop (ι := Nat) (fun j => j ≤ i ∧ sm1 m l (l i) j = false) (fun j => i - j) [9, 25, 26, 27, 28, 29, 30, 31, 32, 33, 34, 35]
        (fun j => [(25, .s (.v (.int .i64 (j : Nat))))])
        (fun j => []) 0 (shape_of fun j => ?_) (by decide) ?_ ?_
      · simp only [List.length_cons, List.length_nil, List.map_cons, List.map_nil, List.nodup_cons, List.nodup_nil, List.mem_cons, Nat.reduceAdd, Nat.reduceEqDiff, or_false, not_false_eq_true, forall_eq_or_imp, forall_eq, or_self, Nat.reduceLT, Nat.reduceLeDiff, and_self, List.forall_mem_cons, List.not_mem_nil, false_implies, implies_true, and_true, true_and, vcOAb25]
      · simp -implicitDefEqProofs (maxSteps := 1000000) (disch := first | exact dz | fail) only [vcR, vcT, Int.reduceBEq, Int.reduceBNe, Int.reduceEq, Int.reduceNe, Ab.part, Nat.reduceAdd, Nat.reduceMul, Nat.reduceLeDiff, Nat.reduceEqDiff, Nat.reduceBEq, Nat.reduceBNe, reduceCtorEq, ↓reduceIte, implies_true, forall_const, Int.reduceNeg, Int.reduceToNat, Int.reduceLT, Int.reduceLE, Int.reduceAdd, Int.reduceSub, Int.reduceMul, Int.reducePow, Nat.reducePow, true_or, Option.isNone_some, Option.isNone_none, vcXAb25, Try.f46, List.toList_toArray, again_eq]
        try simp
        all_goals rfl
      · intro j us' ⟨hj, hs1⟩
        by_cases hji : j < i
        · have hx' : ∀ {K : TV → HE → Prop}, xext (ctxE Try.prog (modEvo 78) w B) (some true) 4 (ad.add (j * 4)) K = K (.agg (nat4 (l j))) .none := fun {K} => hN.nat (by omega)
          have hlj := hl j
          have hmm : msub m (l i) (l j) < 2 ^ 256 := OddM.msub_lt hG
          clear hl hx hpre
          by_cases h0 : msub m (l i) (l j) = 0
          · have e0 : litsEq (lits 4 (wd (msub m (l i) (l j)))) (lits 4 (wd 0)) = true := by rw [h0]; exact litsEq_self _
            have hW : WE m l n = 13 := by unfold WE; rw [sm_hit hji h h0]; rfl
            (repeat' ((first | with_reducible (first | apply XR_append | apply XR_slice | apply XR_cons | apply XR_consG | apply XR_nil | apply cF_pure (by assumption) | apply cF_ev (by assumption) | apply cF_ev (minus_e _ _ _ _ bd bd bd)) | with_reducible (first | apply X_regRS (id := 4) | apply X_regR (id := 4) | apply X_seqX (x := .seq (.region 4 _ false) _) | apply X_seqX (x := .seq (.seq (.region 4 _ false) _) _) | apply X_regRS (id := 15) | apply X_regR (id := 15) | apply X_seqX (x := .seq (.region 15 _ false) _) | apply X_seqX (x := .seq (.seq (.region 15 _ false) _) _) | apply X_regRS (id := 18) | apply X_regR (id := 18) | apply X_seqX (x := .seq (.region 18 _ false) _) | apply X_seqX (x := .seq (.seq (.region 18 _ false) _) _)) | refine X_of _ ?_ | with_reducible (first | exact ⟨_, rfl⟩ | refine And.intro ?_ ?_ | intro _)) <;> try simp -implicitDefEqProofs (maxSteps := 1000000) (disch := first | exact dz | fail) only [vcR, vcT, Int.reduceBEq, Int.reduceBNe, Int.reduceEq, Int.reduceNe, Ab.part, Nat.reduceAdd, Nat.reduceMul, Nat.reduceLeDiff, Nat.reduceEqDiff, Nat.reduceBEq, Nat.reduceBNe, reduceCtorEq, ↓reduceIte, implies_true, forall_const, Int.reduceNeg, Int.reduceToNat, Int.reduceLT, Int.reduceLE, Int.reduceAdd, Int.reduceSub, Int.reduceMul, Int.reducePow, Nat.reducePow, true_or, Option.isNone_some, Option.isNone_none, vcXAb25, Try.f46, List.toList_toArray, arr4_zero, nat4_set1, nat4_setL, nat4_set0, hx',e0]))
            exact gives_err hW (by decide)
          · have e0 : litsEq (lits 4 (wd (msub m (l i) (l j)))) (lits 4 (wd 0)) = false := by rw [litsEq_nat4 hmm (by decide)]; simp [h0]
            (repeat' ((first | with_reducible (first | apply XR_append | apply XR_slice | apply XR_cons | apply XR_consG | apply XR_nil | apply cF_pure (by assumption) | apply cF_ev (by assumption) | apply cF_ev (minus_e _ _ _ _ bd bd bd)) | with_reducible (first | apply X_regRS (id := 4) | apply X_regR (id := 4) | apply X_seqX (x := .seq (.region 4 _ false) _) | apply X_seqX (x := .seq (.seq (.region 4 _ false) _) _) | apply X_regRS (id := 15) | apply X_regR (id := 15) | apply X_seqX (x := .seq (.region 15 _ false) _) | apply X_seqX (x := .seq (.seq (.region 15 _ false) _) _) | apply X_regRS (id := 18) | apply X_regR (id := 18) | apply X_seqX (x := .seq (.region 18 _ false) _) | apply X_seqX (x := .seq (.seq (.region 18 _ false) _) _)) | refine X_of _ ?_ | with_reducible (first | exact ⟨_, rfl⟩ | refine And.intro ?_ ?_ | intro _)) <;> try simp -implicitDefEqProofs (maxSteps := 1000000) (disch := first | exact dz | fail) only [vcR, vcT, Int.reduceBEq, Int.reduceBNe, Int.reduceEq, Int.reduceNe, Ab.part, Nat.reduceAdd, Nat.reduceMul, Nat.reduceLeDiff, Nat.reduceEqDiff, Nat.reduceBEq, Nat.reduceBNe, reduceCtorEq, ↓reduceIte, implies_true, forall_const, Int.reduceNeg, Int.reduceToNat, Int.reduceLT, Int.reduceLE, Int.reduceAdd, Int.reduceSub, Int.reduceMul, Int.reducePow, Nat.reducePow, true_or, Option.isNone_some, Option.isNone_none, vcXAb25, Try.f46, List.toList_toArray, arr4_zero, nat4_set1, nat4_setL, nat4_set0, hx',e0]))
            refine ⟨j + 1, by omega, ?_⟩
            have hs2 : sm1 m l (l i) (j + 1) = false := by show (_ || _) = false; rw [hs1]; simp [h0]
            simp -implicitDefEqProofs (maxSteps := 1000000) (disch := first | exact dz | fail) only [vcR, vcT, Int.reduceBEq, Int.reduceBNe, Int.reduceEq, Int.reduceNe, Ab.part, Nat.reduceAdd, Nat.reduceMul, Nat.reduceLeDiff, Nat.reduceEqDiff, Nat.reduceBEq, Nat.reduceBNe, reduceCtorEq, ↓reduceIte, implies_true, forall_const, Int.reduceNeg, Int.reduceToNat, Int.reduceLT, Int.reduceLE, Int.reduceAdd, Int.reduceSub, Int.reduceMul, Int.reducePow, Nat.reducePow, true_or, Option.isNone_some, Option.isNone_none, vcXAb25, Try.f46, List.toList_toArray, again_eq]
            exact ⟨hs2, _, rfl⟩
        · have : j = i := by omega
          subst this
          (repeat' ((first | with_reducible (first | apply XR_append | apply XR_slice | apply XR_cons | apply XR_consG | apply XR_nil | apply cF_pure (by assumption) | apply cF_ev (by assumption) | apply cF_ev (minus_e _ _ _ _ bd bd bd)) | with_reducible (first | apply X_regRS (id := 4) | apply X_regR (id := 4) | apply X_seqX (x := .seq (.region 4 _ false) _) | apply X_seqX (x := .seq (.seq (.region 4 _ false) _) _) | apply X_regRS (id := 15) | apply X_regR (id := 15) | apply X_seqX (x := .seq (.region 15 _ false) _) | apply X_seqX (x := .seq (.seq (.region 15 _ false) _) _) | apply X_regRS (id := 18) | apply X_regR (id := 18) | apply X_seqX (x := .seq (.region 18 _ false) _) | apply X_seqX (x := .seq (.seq (.region 18 _ false) _) _)) | refine X_of _ ?_ | with_reducible (first | exact ⟨_, rfl⟩ | refine And.intro ?_ ?_ | intro _)) <;> try simp -implicitDefEqProofs (maxSteps := 1000000) (disch := first | exact dz | fail) only [vcR, vcT, Int.reduceBEq, Int.reduceBNe, Int.reduceEq, Int.reduceNe, Ab.part, Nat.reduceAdd, Nat.reduceMul, Nat.reduceLeDiff, Nat.reduceEqDiff, Nat.reduceBEq, Nat.reduceBNe, reduceCtorEq, ↓reduceIte, implies_true, forall_const, Int.reduceNeg, Int.reduceToNat, Int.reduceLT, Int.reduceLE, Int.reduceAdd, Int.reduceSub, Int.reduceMul, Int.reducePow, Nat.reducePow, true_or, Option.isNone_some, Option.isNone_none, vcXAb25, Try.f46, List.toList_toArray, arr4_zero, nat4_set1, nat4_setL, nat4_set0]))
          refine ⟨j + 1, by omega, ?_⟩
          have hs2 : sm m l (j + 1) = false := by show (_ || _) = false; rw [hsm, hs1]; rfl
          simp -implicitDefEqProofs (maxSteps := 1000000) (disch := first | exact dz | fail) only [vcR, vcT, Int.reduceBEq, Int.reduceBNe, Int.reduceEq, Int.reduceNe, Ab.part, Nat.reduceAdd, Nat.reduceMul, Nat.reduceLeDiff, Nat.reduceEqDiff, Nat.reduceBEq, Nat.reduceBNe, reduceCtorEq, ↓reduceIte, implies_true, forall_const, Int.reduceNeg, Int.reduceToNat, Int.reduceLT, Int.reduceLE, Int.reduceAdd, Int.reduceSub, Int.reduceMul, Int.reducePow, Nat.reducePow, true_or, Option.isNone_some, Option.isNone_none, vcXAb25, Try.f46, List.toList_toArray, again_eq]
          exact ⟨hs2, _, rfl⟩
    · have : i = n := by omega
      subst this
      clear h hi
      (repeat' ((first | with_reducible (first | apply XR_append | apply XR_slice | apply XR_cons | apply XR_consG | apply XR_nil | apply cF_pure (by assumption) | apply cF_ev (by assumption) | apply cF_ev (minus_e _ _ _ _ bd bd bd)) | with_reducible (first | apply X_regRS (id := 4) | apply X_regR (id := 4) | apply X_seqX (x := .seq (.region 4 _ false) _) | apply X_seqX (x := .seq (.seq (.region 4 _ false) _) _) | apply X_regRS (id := 15) | apply X_regR (id := 15) | apply X_seqX (x := .seq (.region 15 _ false) _) | apply X_seqX (x := .seq (.seq (.region 15 _ false) _) _) | apply X_regRS (id := 18) | apply X_regR (id := 18) | apply X_seqX (x := .seq (.region 18 _ false) _) | apply X_seqX (x := .seq (.seq (.region 18 _ false) _) _)) | refine X_of _ ?_ | with_reducible (first | exact ⟨_, rfl⟩ | refine And.intro ?_ ?_ | intro _)) <;> try simp -implicitDefEqProofs (maxSteps := 1000000) (disch := first | exact dz | fail) only [vcR, vcT, Int.reduceBEq, Int.reduceBNe, Int.reduceEq, Int.reduceNe, Ab.part, Nat.reduceAdd, Nat.reduceMul, Nat.reduceLeDiff, Nat.reduceEqDiff, Nat.reduceBEq, Nat.reduceBNe, reduceCtorEq, ↓reduceIte, implies_true, forall_const, Int.reduceNeg, Int.reduceToNat, Int.reduceLT, Int.reduceLE, Int.reduceAdd, Int.reduceSub, Int.reduceMul, Int.reducePow, Nat.reducePow, true_or, Option.isNone_some, Option.isNone_none, vcXAb25, Try.f46, List.toList_toArray, arr4_zero, nat4_set1, nat4_setL, nat4_set0]))
      refine X_loopT (ι := Nat × Nat × List Value) (fun k => k.1 ≤ i ∧ wE m l i k.1 = 0 ∧ (k.1 ≠ 0 → k.1 ≤ k.2.1 ∧ k.2.2.length = (k.2.1 - k.1) * 4)) (fun k => i - k.1) [10, 11, 12, 13, 39, 40, 41, 42, 43, 44, 45, 46, 47, 48, 49, 50, 51, 52, 53, 54, 55, 56]
        (fun k => [(10, rowS 0 k.1 k.2.1), (39, .s (.v (.int .i64 (k.1 : Nat))))])
        (fun k => rowH 24 k.1 (nats k.1 (wgt m l i)) k.2.2) (0, 0, []) ?_ (by decide) ?_ ?_
      · rintro ⟨k, c', sp⟩ ⟨hk, _, _⟩
        refine ⟨by simp, ?_, Nat.zero_le _, ?_⟩
        · simp only [List.forall_mem_cons]
          refine ⟨rowS_ok fun h0 => ?_, trivial, fun x hx => by simp at hx⟩
          rw [rowH_s h0]; exact Nat.zero_lt_one
        · intro b hb x hx
          simp only at hb
          by_cases h0 : k = 0
          · subst h0; rw [rowH_0] at hb; simp at hb
          · rw [rowH_s h0] at hb
            simp only [List.mem_cons, List.not_mem_nil, or_false] at hb
            subst hb
            rcases List.mem_append.1 hx with hx | hx
            · exact nats_ok _ x hx
            · exact vals_ok x hx
      · refine ⟨⟨Nat.zero_le _, rfl, fun h => absurd rfl h⟩, [], ⟨by decide, rfl⟩, ?_, trivial⟩
        simp -implicitDefEqProofs (maxSteps := 1000000) (disch := first | exact dz | fail) only [vcR, vcT, Int.reduceBEq, Int.reduceBNe, Int.reduceEq, Int.reduceNe, Ab.part, Nat.reduceAdd, Nat.reduceMul, Nat.reduceLeDiff, Nat.reduceEqDiff, Nat.reduceBEq, Nat.reduceBNe, reduceCtorEq, ↓reduceIte, implies_true, forall_const, Int.reduceNeg, Int.reduceToNat, Int.reduceLT, Int.reduceLE, Int.reduceAdd, Int.reduceSub, Int.reduceMul, Int.reducePow, Nat.reducePow, true_or, Option.isNone_some, Option.isNone_none, vcXAb25, Try.f46, List.toList_toArray, renS_cons,renS_nil,ren_v,rowS_0]
      · rintro ⟨k, c', sp⟩ us ⟨hk, hE, hrow⟩
        simp only at hk hE hrow ⊢
        by_cases hki : k < i
        · obtain ⟨ad, rfl⟩ := hadr (by omega)
          have hw := weight_e kb m (some ad) i c l k hG hl (by omega) hki
          have hszz : sz (ctxE Try.prog (modEvo 78) w B).P 24 = 4 := sz_nat
          have hE' : wE m l i (k + 1) = wgE m l i k := if_pos hE
          have hwl : wgt m l i k < 2 ^ 256 := OddM.mod_lt hG
          clear hadr hl
          by_cases hek : wgE m l i k = 0
          · have hne : (wgE m l i k == 0) = true := by rw [hek]; rfl
            rw [hek] at hw hE'
            by_cases h0 : k = 0
            · subst h0
              rw [rowH_0]
              rw [show ((0 : Nat) : Int) = 0 from rfl] at hw
              (repeat' ((first | with_reducible (first | apply XR_append | apply XR_slice | apply XR_cons | apply XR_consG | apply XR_nil | apply cF_pure (by assumption) | apply cF_ev (by assumption) | apply cF_ev (minus_e _ _ _ _ bd bd bd)) | with_reducible (first | apply X_regRS (id := 4) | apply X_regR (id := 4) | apply X_seqX (x := .seq (.region 4 _ false) _) | apply X_seqX (x := .seq (.seq (.region 4 _ false) _) _) | apply X_regRS (id := 15) | apply X_regR (id := 15) | apply X_seqX (x := .seq (.region 15 _ false) _) | apply X_seqX (x := .seq (.seq (.region 15 _ false) _) _) | apply X_regRS (id := 18) | apply X_regR (id := 18) | apply X_seqX (x := .seq (.region 18 _ false) _) | apply X_seqX (x := .seq (.seq (.region 18 _ false) _) _)) | refine X_of _ ?_ | with_reducible (first | exact ⟨_, rfl⟩ | refine And.intro ?_ ?_ | intro _)) <;> try simp -implicitDefEqProofs (maxSteps := 1000000) (disch := first | exact dz | fail) only [vcR, vcT, Int.reduceBEq, Int.reduceBNe, Int.reduceEq, Int.reduceNe, Ab.part, Nat.reduceAdd, Nat.reduceMul, Nat.reduceLeDiff, Nat.reduceEqDiff, Nat.reduceBEq, Nat.reduceBNe, reduceCtorEq, ↓reduceIte, implies_true, forall_const, Int.reduceNeg, Int.reduceToNat, Int.reduceLT, Int.reduceLE, Int.reduceAdd, Int.reduceSub, Int.reduceMul, Int.reducePow, Nat.reducePow, true_or, Option.isNone_some, Option.isNone_none, vcXAb25, Try.f46, List.toList_toArray, arr4_zero, nat4_set1, nat4_setL, nat4_set0, st_bs,xbs_some,hz1,one_set]))
              refine xappend_row (cs := nats 0 (wgt m l i)) (sp := sp) (news_nat hszz rfl) (fun h => absurd rfl h) (by rw [nats_length, Nat.zero_mul]) (by rw [nat4_length, hszz]) (ap_nat _ (by omega)) (by rw [nat4_one]; trivial) (by show ¬ (24 = 78); decide) fun j' c'' sp' H' h1 h2 h3 h4 h5 h6 => ?_
              clear h4 h5 h6
              (repeat' ((first | with_reducible (first | apply XR_append | apply XR_slice | apply XR_cons | apply XR_consG | apply XR_nil | apply cF_pure (by assumption) | apply cF_ev (by assumption) | apply cF_ev (minus_e _ _ _ _ bd bd bd)) | with_reducible (first | apply X_regRS (id := 4) | apply X_regR (id := 4) | apply X_seqX (x := .seq (.region 4 _ false) _) | apply X_seqX (x := .seq (.seq (.region 4 _ false) _) _) | apply X_regRS (id := 15) | apply X_regR (id := 15) | apply X_seqX (x := .seq (.region 15 _ false) _) | apply X_seqX (x := .seq (.seq (.region 15 _ false) _) _) | apply X_regRS (id := 18) | apply X_regR (id := 18) | apply X_seqX (x := .seq (.region 18 _ false) _) | apply X_seqX (x := .seq (.seq (.region 18 _ false) _) _)) | refine X_of _ ?_ | with_reducible (first | exact ⟨_, rfl⟩ | refine And.intro ?_ ?_ | intro _)) <;> try simp -implicitDefEqProofs (maxSteps := 1000000) (disch := first | exact dz | fail) only [vcR, vcT, Int.reduceBEq, Int.reduceBNe, Int.reduceEq, Int.reduceNe, Ab.part, Nat.reduceAdd, Nat.reduceMul, Nat.reduceLeDiff, Nat.reduceEqDiff, Nat.reduceBEq, Nat.reduceBNe, reduceCtorEq, ↓reduceIte, implies_true, forall_const, Int.reduceNeg, Int.reduceToNat, Int.reduceLT, Int.reduceLE, Int.reduceAdd, Int.reduceSub, Int.reduceMul, Int.reducePow, Nat.reducePow, true_or, Option.isNone_some, Option.isNone_none, vcXAb25, Try.f46, List.toList_toArray, arr4_zero, nat4_set1, nat4_setL, nat4_set0]))
              refine ⟨(0 + 1, c'', sp'), by simp; omega, ⟨by simp; omega, hE', fun _ => ⟨h1, by rw [hszz] at h2; exact h2⟩⟩, [j'], ⟨by simp, rfl⟩, ?_, ⟨?_, trivial⟩⟩
              · have e1 : (rowS 0 (0 + 1) c'').ren (lk [j']) = .s (.sl j' 0 (0 + 1) c'') := by rw [ren_rowS, rowS_s (by omega)]; rfl
                simp -implicitDefEqProofs (maxSteps := 1000000) (disch := first | exact dz | fail) only [vcR, vcT, Int.reduceBEq, Int.reduceBNe, Int.reduceEq, Int.reduceNe, Ab.part, Nat.reduceAdd, Nat.reduceMul, Nat.reduceLeDiff, Nat.reduceEqDiff, Nat.reduceBEq, Nat.reduceBNe, reduceCtorEq, ↓reduceIte, implies_true, forall_const, Int.reduceNeg, Int.reduceToNat, Int.reduceLT, Int.reduceLE, Int.reduceAdd, Int.reduceSub, Int.reduceMul, Int.reducePow, Nat.reducePow, true_or, Option.isNone_some, Option.isNone_none, vcXAb25, Try.f46, List.toList_toArray, renS_cons,renS_nil,ren_v,e1]
              · rw [h3, nats_snoc]
            · obtain ⟨hkc, hsp⟩ := hrow h0
              rw [rowH_s h0]
              (repeat' ((first | with_reducible (first | apply XR_append | apply XR_slice | apply XR_cons | apply XR_consG | apply XR_nil | apply cF_pure (by assumption) | apply cF_ev (by assumption) | apply cF_ev (minus_e _ _ _ _ bd bd bd)) | with_reducible (first | apply X_regRS (id := 4) | apply X_regR (id := 4) | apply X_seqX (x := .seq (.region 4 _ false) _) | apply X_seqX (x := .seq (.seq (.region 4 _ false) _) _) | apply X_regRS (id := 15) | apply X_regR (id := 15) | apply X_seqX (x := .seq (.region 15 _ false) _) | apply X_seqX (x := .seq (.seq (.region 15 _ false) _) _) | apply X_regRS (id := 18) | apply X_regR (id := 18) | apply X_seqX (x := .seq (.region 18 _ false) _) | apply X_seqX (x := .seq (.seq (.region 18 _ false) _) _)) | refine X_of _ ?_ | with_reducible (first | exact ⟨_, rfl⟩ | refine And.intro ?_ ?_ | intro _)) <;> try simp -implicitDefEqProofs (maxSteps := 1000000) (disch := first | exact dz | fail) only [vcR, vcT, Int.reduceBEq, Int.reduceBNe, Int.reduceEq, Int.reduceNe, Ab.part, Nat.reduceAdd, Nat.reduceMul, Nat.reduceLeDiff, Nat.reduceEqDiff, Nat.reduceBEq, Nat.reduceBNe, reduceCtorEq, ↓reduceIte, implies_true, forall_const, Int.reduceNeg, Int.reduceToNat, Int.reduceLT, Int.reduceLE, Int.reduceAdd, Int.reduceSub, Int.reduceMul, Int.reducePow, Nat.reducePow, true_or, Option.isNone_some, Option.isNone_none, vcXAb25, Try.f46, List.toList_toArray, arr4_zero, nat4_set1, nat4_setL, nat4_set0, st_bs,xbs_some,hz1,one_set]))
              refine xappend_row (cs := nats k (wgt m l i)) (sp := sp) (news_nat hszz rfl) (fun _ => ⟨rfl, hkc, by rw [hszz]; exact hsp⟩) (by rw [nats_length, hszz, Nat.mul_comm]) (by rw [nat4_length, hszz]) (ap_nat _ (by omega)) (by rw [nat4_one]; trivial) (by show ¬ (24 = 78); decide) fun j' c'' sp' H' h1 h2 h3 h4 h5 h6 => ?_
              clear h4 h5 h6
              (repeat' ((first | with_reducible (first | apply XR_append | apply XR_slice | apply XR_cons | apply XR_consG | apply XR_nil | apply cF_pure (by assumption) | apply cF_ev (by assumption) | apply cF_ev (minus_e _ _ _ _ bd bd bd)) | with_reducible (first | apply X_regRS (id := 4) | apply X_regR (id := 4) | apply X_seqX (x := .seq (.region 4 _ false) _) | apply X_seqX (x := .seq (.seq (.region 4 _ false) _) _) | apply X_regRS (id := 15) | apply X_regR (id := 15) | apply X_seqX (x := .seq (.region 15 _ false) _) | apply X_seqX (x := .seq (.seq (.region 15 _ false) _) _) | apply X_regRS (id := 18) | apply X_regR (id := 18) | apply X_seqX (x := .seq (.region 18 _ false) _) | apply X_seqX (x := .seq (.seq (.region 18 _ false) _) _)) | refine X_of _ ?_ | with_reducible (first | exact ⟨_, rfl⟩ | refine And.intro ?_ ?_ | intro _)) <;> try simp -implicitDefEqProofs (maxSteps := 1000000) (disch := first | exact dz | fail) only [vcR, vcT, Int.reduceBEq, Int.reduceBNe, Int.reduceEq, Int.reduceNe, Ab.part, Nat.reduceAdd, Nat.reduceMul, Nat.reduceLeDiff, Nat.reduceEqDiff, Nat.reduceBEq, Nat.reduceBNe, reduceCtorEq, ↓reduceIte, implies_true, forall_const, Int.reduceNeg, Int.reduceToNat, Int.reduceLT, Int.reduceLE, Int.reduceAdd, Int.reduceSub, Int.reduceMul, Int.reducePow, Nat.reducePow, true_or, Option.isNone_some, Option.isNone_none, vcXAb25, Try.f46, List.toList_toArray, arr4_zero, nat4_set1, nat4_setL, nat4_set0]))
              refine ⟨(k + 1, c'', sp'), by simp; omega, ⟨by simp; omega, hE', fun _ => ⟨h1, by rw [hszz] at h2; exact h2⟩⟩, [j'], ⟨by simp, rfl⟩, ?_, ⟨?_, trivial⟩⟩
              · have e1 : (rowS 0 (k + 1) c'').ren (lk [j']) = .s (.sl j' 0 (k + 1) c'') := by rw [ren_rowS, rowS_s (by omega)]; rfl
                simp -implicitDefEqProofs (maxSteps := 1000000) (disch := first | exact dz | fail) only [vcR, vcT, Int.reduceBEq, Int.reduceBNe, Int.reduceEq, Int.reduceNe, Ab.part, Nat.reduceAdd, Nat.reduceMul, Nat.reduceLeDiff, Nat.reduceEqDiff, Nat.reduceBEq, Nat.reduceBNe, reduceCtorEq, ↓reduceIte, implies_true, forall_const, Int.reduceNeg, Int.reduceToNat, Int.reduceLT, Int.reduceLE, Int.reduceAdd, Int.reduceSub, Int.reduceMul, Int.reducePow, Nat.reducePow, true_or, Option.isNone_some, Option.isNone_none, vcXAb25, Try.f46, List.toList_toArray, renS_cons,renS_nil,ren_v,e1]
              · rw [h3, nats_snoc]
          · have hne : (wgE m l i k != 0) = true := by simp [hek]
            have hW : WE m l i = wgE m l i k := by
              unfold WE
              rw [hsm, wE_stuck (i := k + 1) (by rw [hE']; exact hek) i (by omega), hE']
              rfl
            by_cases h0 : k = 0
            · subst h0
              rw [rowH_0]
              rw [show ((0 : Nat) : Int) = 0 from rfl] at hw
              (repeat' ((first | with_reducible (first | apply XR_append | apply XR_slice | apply XR_cons | apply XR_consG | apply XR_nil | apply cF_pure (by assumption) | apply cF_ev (by assumption) | apply cF_ev (minus_e _ _ _ _ bd bd bd)) | with_reducible (first | apply X_regRS (id := 4) | apply X_regR (id := 4) | apply X_seqX (x := .seq (.region 4 _ false) _) | apply X_seqX (x := .seq (.seq (.region 4 _ false) _) _) | apply X_regRS (id := 15) | apply X_regR (id := 15) | apply X_seqX (x := .seq (.region 15 _ false) _) | apply X_seqX (x := .seq (.seq (.region 15 _ false) _) _) | apply X_regRS (id := 18) | apply X_regR (id := 18) | apply X_seqX (x := .seq (.region 18 _ false) _) | apply X_seqX (x := .seq (.seq (.region 18 _ false) _) _)) | refine X_of _ ?_ | with_reducible (first | exact ⟨_, rfl⟩ | refine And.intro ?_ ?_ | intro _)) <;> try simp -implicitDefEqProofs (maxSteps := 1000000) (disch := first | exact dz | fail) only [vcR, vcT, Int.reduceBEq, Int.reduceBNe, Int.reduceEq, Int.reduceNe, Ab.part, Nat.reduceAdd, Nat.reduceMul, Nat.reduceLeDiff, Nat.reduceEqDiff, Nat.reduceBEq, Nat.reduceBNe, reduceCtorEq, ↓reduceIte, implies_true, forall_const, Int.reduceNeg, Int.reduceToNat, Int.reduceLT, Int.reduceLE, Int.reduceAdd, Int.reduceSub, Int.reduceMul, Int.reducePow, Nat.reducePow, true_or, Option.isNone_some, Option.isNone_none, vcXAb25, Try.f46, List.toList_toArray, arr4_zero, nat4_set1, nat4_setL, nat4_set0, hne]))
              exact gives_err hW hek
            · rw [rowH_s h0]
              (repeat' ((first | with_reducible (first | apply XR_append | apply XR_slice | apply XR_cons | apply XR_consG | apply XR_nil | apply cF_pure (by assumption) | apply cF_ev (by assumption) | apply cF_ev (minus_e _ _ _ _ bd bd bd)) | with_reducible (first | apply X_regRS (id := 4) | apply X_regR (id := 4) | apply X_seqX (x := .seq (.region 4 _ false) _) | apply X_seqX (x := .seq (.seq (.region 4 _ false) _) _) | apply X_regRS (id := 15) | apply X_regR (id := 15) | apply X_seqX (x := .seq (.region 15 _ false) _) | apply X_seqX (x := .seq (.seq (.region 15 _ false) _) _) | apply X_regRS (id := 18) | apply X_regR (id := 18) | apply X_seqX (x := .seq (.region 18 _ false) _) | apply X_seqX (x := .seq (.seq (.region 18 _ false) _) _)) | refine X_of _ ?_ | with_reducible (first | exact ⟨_, rfl⟩ | refine And.intro ?_ ?_ | intro _)) <;> try simp -implicitDefEqProofs (maxSteps := 1000000) (disch := first | exact dz | fail) only [vcR, vcT, Int.reduceBEq, Int.reduceBNe, Int.reduceEq, Int.reduceNe, Ab.part, Nat.reduceAdd, Nat.reduceMul, Nat.reduceLeDiff, Nat.reduceEqDiff, Nat.reduceBEq, Nat.reduceBNe, reduceCtorEq, ↓reduceIte, implies_true, forall_const, Int.reduceNeg, Int.reduceToNat, Int.reduceLT, Int.reduceLE, Int.reduceAdd, Int.reduceSub, Int.reduceMul, Int.reducePow, Nat.reducePow, true_or, Option.isNone_some, Option.isNone_none, vcXAb25, Try.f46, List.toList_toArray, arr4_zero, nat4_set1, nat4_setL, nat4_set0, hne]))
              exact gives_err hW hek
        · have : k = i := by omega
          subst this
          have hW : WE m l k = 0 := by
            unfold WE
            rw [hsm, hE]
            rfl
          clear hadr hN hl
          by_cases h0 : k = 0
          · subst h0
            rw [rowH_0]
            (repeat' ((first | with_reducible (first | apply XR_append | apply XR_slice | apply XR_cons | apply XR_consG | apply XR_nil | apply cF_pure (by assumption) | apply cF_ev (by assumption) | apply cF_ev (minus_e _ _ _ _ bd bd bd)) | with_reducible (first | apply X_regRS (id := 4) | apply X_regR (id := 4) | apply X_seqX (x := .seq (.region 4 _ false) _) | apply X_seqX (x := .seq (.seq (.region 4 _ false) _) _) | apply X_regRS (id := 15) | apply X_regR (id := 15) | apply X_seqX (x := .seq (.region 15 _ false) _) | apply X_seqX (x := .seq (.seq (.region 15 _ false) _) _) | apply X_regRS (id := 18) | apply X_regR (id := 18) | apply X_seqX (x := .seq (.region 18 _ false) _) | apply X_seqX (x := .seq (.seq (.region 18 _ false) _) _)) | refine X_of _ ?_ | with_reducible (first | exact ⟨_, rfl⟩ | refine And.intro ?_ ?_ | intro _)) <;> try simp -implicitDefEqProofs (maxSteps := 1000000) (disch := first | exact dz | fail) only [vcR, vcT, Int.reduceBEq, Int.reduceBNe, Int.reduceEq, Int.reduceNe, Ab.part, Nat.reduceAdd, Nat.reduceMul, Nat.reduceLeDiff, Nat.reduceEqDiff, Nat.reduceBEq, Nat.reduceBNe, reduceCtorEq, ↓reduceIte, implies_true, forall_const, Int.reduceNeg, Int.reduceToNat, Int.reduceLT, Int.reduceLE, Int.reduceAdd, Int.reduceSub, Int.reduceMul, Int.reducePow, Nat.reducePow, true_or, Option.isNone_some, Option.isNone_none, vcXAb25, Try.f46, List.toList_toArray, arr4_zero, nat4_set1, nat4_setL, nat4_set0, rowS_0]))
            exact gives_ok (j := 0) (c := 0) (sp := []) hW (fun h => absurd rfl h) (fun h => absurd rfl h)
          · rw [rowH_s h0]
            (repeat' ((first | with_reducible (first | apply XR_append | apply XR_slice | apply XR_cons | apply XR_consG | apply XR_nil | apply cF_pure (by assumption) | apply cF_ev (by assumption) | apply cF_ev (minus_e _ _ _ _ bd bd bd)) | with_reducible (first | apply X_regRS (id := 4) | apply X_regR (id := 4) | apply X_seqX (x := .seq (.region 4 _ false) _) | apply X_seqX (x := .seq (.seq (.region 4 _ false) _) _) | apply X_regRS (id := 15) | apply X_regR (id := 15) | apply X_seqX (x := .seq (.region 15 _ false) _) | apply X_seqX (x := .seq (.seq (.region 15 _ false) _) _) | apply X_regRS (id := 18) | apply X_regR (id := 18) | apply X_seqX (x := .seq (.region 18 _ false) _) | apply X_seqX (x := .seq (.seq (.region 18 _ false) _) _)) | refine X_of _ ?_ | with_reducible (first | exact ⟨_, rfl⟩ | refine And.intro ?_ ?_ | intro _)) <;> try simp -implicitDefEqProofs (maxSteps := 1000000) (disch := first | exact dz | fail) only [vcR, vcT, Int.reduceBEq, Int.reduceBNe, Int.reduceEq, Int.reduceNe, Ab.part, Nat.reduceAdd, Nat.reduceMul, Nat.reduceLeDiff, Nat.reduceEqDiff, Nat.reduceBEq, Nat.reduceBNe, reduceCtorEq, ↓reduceIte, implies_true, forall_const, Int.reduceNeg, Int.reduceToNat, Int.reduceLT, Int.reduceLE, Int.reduceAdd, Int.reduceSub, Int.reduceMul, Int.reducePow, Nat.reducePow, true_or, Option.isNone_some, Option.isNone_none, vcXAb25, Try.f46, List.toList_toArray, arr4_zero, nat4_set1, nat4_setL, nat4_set0, rowS_s h0]))
            have hg := gives_ok (j := 0) (H := [⟨24, nats k (wgt m l k) ++ sp.map .v⟩]) hW hrow fun _ => rfl
            rw [rowV_s h0] at hg
            exact hg
end Go.Proofs.Ythniflakjkbpiaa
