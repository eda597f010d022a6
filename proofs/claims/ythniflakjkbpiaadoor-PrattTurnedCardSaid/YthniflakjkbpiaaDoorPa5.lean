/-
  pratt: what a list proves.
-/
import Derived.Test.YthniflakjkbpiaaDoorPa3
import Derived.Test.YthniflakjkbpiaaDoorPh
import Derived.Test.YthniflakjkbpiaaDoorPc
namespace Go.Proofs.YthniflakjkbpiaaDoor
open Go Go.Ab
set_option linter.unusedSimpArgs false
set_option linter.unusedVariables false
set_option linter.defProp false
set_option maxHeartbeats 20000000
set_option maxRecDepth 100000

theorem seqA_n {K : KA} {Q : QA} {T : List TV} {H : Heap} {A : World → Prop} : seqA K Q .normal T H A = K T H A := rfl
theorem seqA_r {K : KA} {Q : QA} {T : List TV} {H : Heap} {A : World → Prop} : seqA K Q .ret T H A = Q .ret T H A := rfl
theorem seqA_x {K : KA} {Q : QA} {T : List TV} {H : Heap} {A : World → Prop} {i : Nat} : seqA K Q (.exit i) T H A = Q (.exit i) T H A := rfl
theorem blockA_n {id : Nat} {Q : QA} {T : List TV} {H : Heap} {A : World → Prop} : blockA id Q .normal T H A = Q .normal T H A := rfl
theorem blockA_r {id : Nat} {Q : QA} {T : List TV} {H : Heap} {A : World → Prop} : blockA id Q .ret T H A = Q .ret T H A := rfl
theorem blockA_x {id i : Nat} {Q : QA} {T : List TV} {H : Heap} {A : World → Prop} : blockA id Q (.exit i) T H A = if i = id then Q .normal T H A else Q (.exit i) T H A := rfl
theorem retA_n {P : Program} {rs : List ResultVar} {R : TV → Heap → (World → Prop) → Prop} {T : List TV} {H : Heap} {A : World → Prop} : retA P rs R .normal T H A = retV (resAll P T H rs) fun v => R v H A := rfl
theorem retA_r {P : Program} {rs : List ResultVar} {R : TV → Heap → (World → Prop) → Prop} {T : List TV} {H : Heap} {A : World → Prop} : retA P rs R .ret T H A = retV (resAll P T H rs) fun v => R v H A := rfl
section
variable {ι : Type} {T0 : List TV} {H0 : Heap} {V : ι → Prop} {μ : ι → Nat} {js : List Nat} {sv : ι → List (Nat × TV)} {hv : ι → List (Nat × List SV)} {AA : ι → World → Prop} {i : ι} {Q : QA} {T : List TV} {H : Heap} {A : World → Prop}
theorem loopA_n : loopA T0 H0 V μ js sv hv AA i Q .normal T H A = ∃ i', μ i' < μ i ∧ Again T0 H0 V js sv hv T H i' ∧ A = AA i' := rfl
theorem loopA_r : loopA T0 H0 V μ js sv hv AA i Q .ret T H A = Q .ret T H A := rfl
theorem loopA_x {j : Nat} : loopA T0 H0 V μ js sv hv AA i Q (.exit j) T H A = Q (.exit j) T H A := rfl
end
/-- What check hands back. -/
def CkR (w : World) (l : Nat → Pf) (m : Nat) (v : TV) (A : World → Prop) : Prop :=
  ∃ b p, w.heap.size ≤ b ∧ v = .tup [.s (.v (.map (some b))), .s (.v (.int .i64 (ckS l m)))] ∧ A = MapAt b p ∧ (ckS l m = 0 → p = knS l m)
theorem XAR_A {Γ : Ctx} {A A' : World → Prop} {ops : Array Oper} {l : List Oper} {T : List TV} {H : Heap} {K : KA} (h : A = A') (hx : XAR Γ A' ops l T H K) : XAR Γ A ops l T H K := by rw [h]; exact hx
theorem mapS {b i N G n c : Nat} {l : Nat → Pf} {y : Option Addr} {P : Nat → Nat} {E : Nat → Int} (h : l i = ⟨N, G, y, n, c, P, E⟩) : MapAt b (fun q => knS l i q || q == N) = MapAt b (knS l (i + 1)) := by
  congr 1
  funext q
  rw [knS_succ, h]
theorem map0 (b : Nat) (l : Nat → Pf) : MapAt b (fun i => (fun _ => false) i || i == 2) = MapAt b (knS l 0) := by
  congr 1
  funext i
  rw [knS_zero, Bool.false_or]


theorem check_c (x : Option Addr) (m c : Nat) (l : Nat → Pf) (hl : PfOk l) (hm : m < 9223372036854775808) (w : World) (hp : prfs x m l w) (h2 : least w) :
    Calls Tryd.prog 34 ([TV.s (.v (.slice x m c))].map (TV.conc fun _ => 0)).toArray w fun e w' => ∃ v H' A' β', CkR w l m v A' ∧ A' w' ∧ Rep (ctx0 Tryd.prog w) H' β' w' ∧ ∀ β'', Agrees H'.length β' β'' → e = .returned (v.conc β'') := by
  refine calls_of_XA (Γ := ctx0 Tryd.prog w) (A := fun _ => True) (R := fun v H A => CkR w l m v A) Tryd.func34 rfl (rep0 Tryd.prog w fun _ => 0) trivial (by simp only [List.length_cons, List.length_nil, List.map_cons, List.map_nil, List.nodup_cons, List.nodup_nil, List.mem_cons, Nat.reduceAdd, Nat.reduceEqDiff, or_false, not_false_eq_true, forall_eq_or_imp, forall_eq, or_self, Nat.reduceLT, Nat.reduceLeDiff, and_self, List.forall_mem_cons, List.not_mem_nil, false_implies, implies_true, and_true, true_and, vcOPb]) ?_
  simp only [List.length_cons, List.length_nil, Tryd.ntmps34, Nat.reduceAdd, Nat.reduceSub, List.replicate_succ, List.replicate_zero, List.cons_append, List.nil_append]
  have hP0 := prfs_kn (P0 := Tryd.prog) hp
  have hL0 := least_kn (P0 := Tryd.prog) h2
  have hadr : m ≠ 0 → ∃ ad, x = some ad := fun h => by
    rcases hp.1 with h0 | ⟨ad, h0, _⟩
    · omega
    · exact ⟨ad, h0⟩
  clear hp h2
  refine XA_seq (XA_X [] steady_true rfl (by simp) (by simp) fun β1 w1 hR1 hA1 hK1 => ?_)
  (repeat' ((first | with_reducible (first | apply cF_pure1 (by assumption) | apply cF_ev1 (by assumption)) | refine X_of _ ?_ | with_reducible (first | exact ⟨_, rfl⟩ | refine And.intro ?_ ?_ | intro _)) <;> try simp -implicitDefEqProofs (maxSteps := 1000000) (disch := first | exact dz1 | fail) only [vcR, vcT, Int.reduceBEq, Int.reduceBNe, Int.reduceEq, Int.reduceNe, Ab.part, Nat.reduceAdd, Nat.reduceMul, Nat.reduceLeDiff, Nat.reduceEqDiff, Nat.reduceBEq, Nat.reduceBNe, reduceCtorEq, ↓reduceIte, implies_true, forall_const, Int.reduceNeg, Int.reduceToNat, Int.reduceLT, Int.reduceLE, Int.reduceAdd, Int.reduceSub, Int.reduceMul, Int.reducePow, Nat.reducePow, true_or, Option.isNone_some, Option.isNone_none, vcXPb, Tryd.f34, List.toList_toArray, arr4_zero, nat4_set1, nat4_setL, nat4_set0, seqA_n]))
  clear hR1 hA1 hK1 β1 w1
  refine XA_seq (XA_reg (XAR_mk fun b hb => ?_))
  try simp -implicitDefEqProofs (maxSteps := 1000000) (disch := first | exact dz1 | fail) only [vcR, vcT, Int.reduceBEq, Int.reduceBNe, Int.reduceEq, Int.reduceNe, Ab.part, Nat.reduceAdd, Nat.reduceMul, Nat.reduceLeDiff, Nat.reduceEqDiff, Nat.reduceBEq, Nat.reduceBNe, reduceCtorEq, ↓reduceIte, implies_true, forall_const, Int.reduceNeg, Int.reduceToNat, Int.reduceLT, Int.reduceLE, Int.reduceAdd, Int.reduceSub, Int.reduceMul, Int.reducePow, Nat.reducePow, true_or, Option.isNone_some, Option.isNone_none, vcXPb, Tryd.f34, List.toList_toArray]
  refine XAR_step [] (steady_map _ _) rfl (by simp) (by simp) fun β2 w2 hR2 hA2 hK2 => ?_
  have hg : ∀ {K : TV → HE → Prop}, xext ((ctx0 Tryd.prog w).after (ctx0 Tryd.prog w).ev (ctx0 Tryd.prog w).B w2 β2 []) (some true) 4 ⟨0, 0, none⟩ K = K (.agg (nat4 2)) .none := fun {K} => (hK2 _ hL0).least
  try simp -implicitDefEqProofs (maxSteps := 1000000) (disch := first | exact dz1 | fail) only [vcR, vcT, Int.reduceBEq, Int.reduceBNe, Int.reduceEq, Int.reduceNe, Ab.part, Nat.reduceAdd, Nat.reduceMul, Nat.reduceLeDiff, Nat.reduceEqDiff, Nat.reduceBEq, Nat.reduceBNe, reduceCtorEq, ↓reduceIte, implies_true, forall_const, Int.reduceNeg, Int.reduceToNat, Int.reduceLT, Int.reduceLE, Int.reduceAdd, Int.reduceSub, Int.reduceMul, Int.reducePow, Nat.reducePow, true_or, Option.isNone_some, Option.isNone_none, vcXPb, Tryd.f34, List.toList_toArray, hg]
  clear hg hR2 hA2 hK2 β2 w2
  refine XAR_put mapTy (.inr rfl) hb (n := 2) (z := 0) (by decide) rfl rfl rfl ?_
  refine XAR_A (map0 b l) ?_
  try simp -implicitDefEqProofs (maxSteps := 1000000) (disch := first | exact dz1 | fail) only [vcR, vcT, Int.reduceBEq, Int.reduceBNe, Int.reduceEq, Int.reduceNe, Ab.part, Nat.reduceAdd, Nat.reduceMul, Nat.reduceLeDiff, Nat.reduceEqDiff, Nat.reduceBEq, Nat.reduceBNe, reduceCtorEq, ↓reduceIte, implies_true, forall_const, Int.reduceNeg, Int.reduceToNat, Int.reduceLT, Int.reduceLE, Int.reduceAdd, Int.reduceSub, Int.reduceMul, Int.reducePow, Nat.reducePow, true_or, Option.isNone_some, Option.isNone_none, vcXPb, Tryd.f34, List.toList_toArray]
  refine XAR_step [] (steady_map _ _) rfl (by simp) (by simp) fun β2 w2 hR2 hA2 hK2 => ?_
  try simp -implicitDefEqProofs (maxSteps := 1000000) (disch := first | exact dz1 | fail) only [vcR, vcT, Int.reduceBEq, Int.reduceBNe, Int.reduceEq, Int.reduceNe, Ab.part, Nat.reduceAdd, Nat.reduceMul, Nat.reduceLeDiff, Nat.reduceEqDiff, Nat.reduceBEq, Nat.reduceBNe, reduceCtorEq, ↓reduceIte, implies_true, forall_const, Int.reduceNeg, Int.reduceToNat, Int.reduceLT, Int.reduceLE, Int.reduceAdd, Int.reduceSub, Int.reduceMul, Int.reducePow, Nat.reducePow, true_or, Option.isNone_some, Option.isNone_none, vcXPb, Tryd.f34, List.toList_toArray]
  clear hK2 hA2 hR2 w2 β2
  refine XAR_step [] (steady_map _ _) rfl (by simp) (by simp) fun β2 w2 hR2 hA2 hK2 => ?_
  try simp -implicitDefEqProofs (maxSteps := 1000000) (disch := first | exact dz1 | fail) only [vcR, vcT, Int.reduceBEq, Int.reduceBNe, Int.reduceEq, Int.reduceNe, Ab.part, Nat.reduceAdd, Nat.reduceMul, Nat.reduceLeDiff, Nat.reduceEqDiff, Nat.reduceBEq, Nat.reduceBNe, reduceCtorEq, ↓reduceIte, implies_true, forall_const, Int.reduceNeg, Int.reduceToNat, Int.reduceLT, Int.reduceLE, Int.reduceAdd, Int.reduceSub, Int.reduceMul, Int.reducePow, Nat.reducePow, true_or, Option.isNone_some, Option.isNone_none, vcXPb, Tryd.f34, List.toList_toArray]
  clear hK2 hA2 hR2 w2 β2
  refine XAR_nil ?_
  try simp -implicitDefEqProofs (maxSteps := 1000000) (disch := first | exact dz1 | fail) only [vcR, vcT, Int.reduceBEq, Int.reduceBNe, Int.reduceEq, Int.reduceNe, Ab.part, Nat.reduceAdd, Nat.reduceMul, Nat.reduceLeDiff, Nat.reduceEqDiff, Nat.reduceBEq, Nat.reduceBNe, reduceCtorEq, ↓reduceIte, implies_true, forall_const, Int.reduceNeg, Int.reduceToNat, Int.reduceLT, Int.reduceLE, Int.reduceAdd, Int.reduceSub, Int.reduceMul, Int.reducePow, Nat.reducePow, true_or, Option.isNone_some, Option.isNone_none, vcXPb, Tryd.f34, List.toList_toArray, seqA_n]
  by_cases h40 : 40 < m
  · have h40' : (40 : Int) < (m : Int) := by omega
    refine XA_seq (XA_X [] (steady_map _ _) rfl (by simp) (by simp) fun β1 w1 hR1 hA1 hK1 => ?_)
    (repeat' ((first | with_reducible (first | apply cF_pure1 (by assumption) | apply cF_ev1 (by assumption)) | refine X_of _ ?_ | with_reducible (first | exact ⟨_, rfl⟩ | refine And.intro ?_ ?_ | intro _)) <;> try simp -implicitDefEqProofs (maxSteps := 1000000) (disch := first | exact dz1 | fail) only [vcR, vcT, Int.reduceBEq, Int.reduceBNe, Int.reduceEq, Int.reduceNe, Ab.part, Nat.reduceAdd, Nat.reduceMul, Nat.reduceLeDiff, Nat.reduceEqDiff, Nat.reduceBEq, Nat.reduceBNe, reduceCtorEq, ↓reduceIte, implies_true, forall_const, Int.reduceNeg, Int.reduceToNat, Int.reduceLT, Int.reduceLE, Int.reduceAdd, Int.reduceSub, Int.reduceMul, Int.reducePow, Nat.reducePow, true_or, Option.isNone_some, Option.isNone_none, vcXPb, Tryd.f34, List.toList_toArray, arr4_zero, nat4_set1, nat4_setL, nat4_set0, seqA_n,seqA_r,seqA_x,blockA_n,blockA_r,blockA_x,loopA_n,loopA_r,loopA_x,retA_n,retA_r,h40']))
    exact ⟨b, _, hb, by rw [ckS_long h40], rfl, fun h => by rw [ckS_long h40] at h; cases h⟩
  · have h40' : ¬ (40 : Int) < (m : Int) := by omega
    refine XA_seq (XA_X [] (steady_map _ _) rfl (by simp) (by simp) fun β1 w1 hR1 hA1 hK1 => ?_)
    (repeat' ((first | with_reducible (first | apply cF_pure1 (by assumption) | apply cF_ev1 (by assumption)) | refine X_of _ ?_ | with_reducible (first | exact ⟨_, rfl⟩ | refine And.intro ?_ ?_ | intro _)) <;> try simp -implicitDefEqProofs (maxSteps := 1000000) (disch := first | exact dz1 | fail) only [vcR, vcT, Int.reduceBEq, Int.reduceBNe, Int.reduceEq, Int.reduceNe, Ab.part, Nat.reduceAdd, Nat.reduceMul, Nat.reduceLeDiff, Nat.reduceEqDiff, Nat.reduceBEq, Nat.reduceBNe, reduceCtorEq, ↓reduceIte, implies_true, forall_const, Int.reduceNeg, Int.reduceToNat, Int.reduceLT, Int.reduceLE, Int.reduceAdd, Int.reduceSub, Int.reduceMul, Int.reducePow, Nat.reducePow, true_or, Option.isNone_some, Option.isNone_none, vcXPb, Tryd.f34, List.toList_toArray, arr4_zero, nat4_set1, nat4_setL, nat4_set0, seqA_n,seqA_r,seqA_x,blockA_n,blockA_r,blockA_x,loopA_n,loopA_r,loopA_x,retA_n,retA_r,h40']))
    clear hK1 hA1 hR1 w1 β1
    refine XA_seq (XA_seq (XA_X [] (steady_map _ _) rfl (by simp) (by simp) fun β1 w1 hR1 hA1 hK1 => ?_))
    (repeat' ((first | with_reducible (first | apply cF_pure1 (by assumption) | apply cF_ev1 (by assumption)) | refine X_of _ ?_ | with_reducible (first | exact ⟨_, rfl⟩ | refine And.intro ?_ ?_ | intro _)) <;> try simp -implicitDefEqProofs (maxSteps := 1000000) (disch := first | exact dz1 | fail) only [vcR, vcT, Int.reduceBEq, Int.reduceBNe, Int.reduceEq, Int.reduceNe, Ab.part, Nat.reduceAdd, Nat.reduceMul, Nat.reduceLeDiff, Nat.reduceEqDiff, Nat.reduceBEq, Nat.reduceBNe, reduceCtorEq, ↓reduceIte, implies_true, forall_const, Int.reduceNeg, Int.reduceToNat, Int.reduceLT, Int.reduceLE, Int.reduceAdd, Int.reduceSub, Int.reduceMul, Int.reducePow, Nat.reducePow, true_or, Option.isNone_some, Option.isNone_none, vcXPb, Tryd.f34, List.toList_toArray, arr4_zero, nat4_set1, nat4_setL, nat4_set0, seqA_n,seqA_r,seqA_x,blockA_n,blockA_r,blockA_x,loopA_n,loopA_r,loopA_x,retA_n,retA_r]))
    clear hK1 hA1 hR1 w1 β1
    refine XA_block (XA_loop (ι := Nat) (fun i => i ≤ m ∧ ckU l i = 0) (fun i => m - i) [5, 6, 7, 8, 9, 19, 20, 21, 22, 23, 24, 25, 26, 27, 28, 29, 30, 31, 32, 33, 34, 35, 36, 37, 38, 39, 40, 41, 42, 43, 44, 45, 46, 47, 48, 49]
      (fun i => [(19, .s (.v (.int .i64 (i : Nat))))]) (fun i => []) (fun i => MapAt b (knS l i)) 0 (shape_of fun i => ?_) (by decide) ?_ rfl ?_)
    · simp only [List.length_cons, List.length_nil, List.map_cons, List.map_nil, List.nodup_cons, List.nodup_nil, List.mem_cons, Nat.reduceAdd, Nat.reduceEqDiff, or_false, not_false_eq_true, forall_eq_or_imp, forall_eq, or_self, Nat.reduceLT, Nat.reduceLeDiff, and_self, List.forall_mem_cons, List.not_mem_nil, false_implies, implies_true, and_true, true_and, vcOPb]
    · simp -implicitDefEqProofs (maxSteps := 1000000) (disch := first | exact dz1 | fail) only [vcR, vcT, Int.reduceBEq, Int.reduceBNe, Int.reduceEq, Int.reduceNe, Ab.part, Nat.reduceAdd, Nat.reduceMul, Nat.reduceLeDiff, Nat.reduceEqDiff, Nat.reduceBEq, Nat.reduceBNe, reduceCtorEq, ↓reduceIte, implies_true, forall_const, Int.reduceNeg, Int.reduceToNat, Int.reduceLT, Int.reduceLE, Int.reduceAdd, Int.reduceSub, Int.reduceMul, Int.reducePow, Nat.reducePow, true_or, Option.isNone_some, Option.isNone_none, vcXPb, Tryd.f34, List.toList_toArray, again_eq]
      exact ⟨rfl, _, rfl⟩
    · intro i us ⟨hi, hU⟩
      try simp -implicitDefEqProofs (maxSteps := 1000000) (disch := first | exact dz1 | fail) only [vcR, vcT, Int.reduceBEq, Int.reduceBNe, Int.reduceEq, Int.reduceNe, Ab.part, Nat.reduceAdd, Nat.reduceMul, Nat.reduceLeDiff, Nat.reduceEqDiff, Nat.reduceBEq, Nat.reduceBNe, reduceCtorEq, ↓reduceIte, implies_true, forall_const, Int.reduceNeg, Int.reduceToNat, Int.reduceLT, Int.reduceLE, Int.reduceAdd, Int.reduceSub, Int.reduceMul, Int.reducePow, Nat.reducePow, true_or, Option.isNone_some, Option.isNone_none, vcXPb, Tryd.f34, List.toList_toArray]
      by_cases h : i < m
      · obtain ⟨ad, rfl⟩ := hadr (by omega)
        refine XA_seq (XA_X [] (steady_map _ _) rfl (by simp) (by simp) fun β1 w1 hR1 hA1 hK1 => ?_)
        (repeat' ((first | with_reducible (first | apply cF_pure1 (by assumption) | apply cF_ev1 (by assumption)) | refine X_of _ ?_ | with_reducible (first | exact ⟨_, rfl⟩ | refine And.intro ?_ ?_ | intro _)) <;> try simp -implicitDefEqProofs (maxSteps := 1000000) (disch := first | exact dz1 | fail) only [vcR, vcT, Int.reduceBEq, Int.reduceBNe, Int.reduceEq, Int.reduceNe, Ab.part, Nat.reduceAdd, Nat.reduceMul, Nat.reduceLeDiff, Nat.reduceEqDiff, Nat.reduceBEq, Nat.reduceBNe, reduceCtorEq, ↓reduceIte, implies_true, forall_const, Int.reduceNeg, Int.reduceToNat, Int.reduceLT, Int.reduceLE, Int.reduceAdd, Int.reduceSub, Int.reduceMul, Int.reducePow, Nat.reducePow, true_or, Option.isNone_some, Option.isNone_none, vcXPb, Tryd.f34, List.toList_toArray, arr4_zero, nat4_set1, nat4_setL, nat4_set0, seqA_n,seqA_r,seqA_x,blockA_n,blockA_r,blockA_x,loopA_n,loopA_r,loopA_x,retA_n,retA_r]))
        clear hK1 hA1 hR1 w1 β1
        obtain ⟨p, hli⟩ : ∃ p, l i = p := ⟨_, rfl⟩
        obtain ⟨N, G, y, n, c', P, E⟩ := p
        have hNl : N < 2 ^ 256 := by have := hl.N i; rwa [hli] at this
        have hGl : G < 2 ^ 256 := by have := hl.G i; rwa [hli] at this
        have hPl : ∀ k, P k < 2 ^ 256 := fun k => by have := hl.P i k; rwa [hli] at this
        have hEl : ∀ k, -9223372036854775808 ≤ E k ∧ E k < 9223372036854775808 := fun k => by have := hl.E i k; rwa [hli] at this
        have hnl : n < 9223372036854775808 := by have := hl.n i; rwa [hli] at this
        have hF0 : Kn (ctx0 Tryd.prog w) (facsAt Evo.none y n P E) := by have := hP0.prfF h; rwa [hli] at this
        have hady : n ≠ 0 → ∃ ad, y = some ad := fun h => by
          rcases hF0 _ (FrP.now _) with h0 | ⟨ad, h0, _⟩
          · exact absurd h0 h
          · exact ⟨ad, h0⟩
        refine XA_seq (XA_X [] (steady_map _ _) rfl (by simp) (by simp) fun β1 w1 hR1 hA1 hK1 => ?_)
        (repeat' ((first | with_reducible (first | apply cF_pure1 (by assumption) | apply cF_ev1 (by assumption)) | refine X_of _ ?_ | with_reducible (first | exact ⟨_, rfl⟩ | refine And.intro ?_ ?_ | intro _)) <;> try simp -implicitDefEqProofs (maxSteps := 1000000) (disch := first | exact dz1 | fail) only [vcR, vcT, Int.reduceBEq, Int.reduceBNe, Int.reduceEq, Int.reduceNe, Ab.part, Nat.reduceAdd, Nat.reduceMul, Nat.reduceLeDiff, Nat.reduceEqDiff, Nat.reduceBEq, Nat.reduceBNe, reduceCtorEq, ↓reduceIte, implies_true, forall_const, Int.reduceNeg, Int.reduceToNat, Int.reduceLT, Int.reduceLE, Int.reduceAdd, Int.reduceSub, Int.reduceMul, Int.reducePow, Nat.reducePow, true_or, Option.isNone_some, Option.isNone_none, vcXPb, Tryd.f34, List.toList_toArray, arr4_zero, nat4_set1, nat4_setL, nat4_set0, seqA_n,seqA_r,seqA_x,blockA_n,blockA_r,blockA_x,loopA_n,loopA_r,loopA_x,retA_n,retA_r]))
        clear hK1 hA1 hR1 w1 β1
        refine XA_seq (XA_block ?_)
        refine XA_seq ?_
        refine (XA_X [] (steady_map _ _) rfl (by simp) (by simp) fun β1 w1 hR1 hA1 hK1 => ?_)
        have hx : ∀ {K : TV → HE → Prop}, xext ((ctx0 Tryd.prog w).after (ctx0 Tryd.prog w).ev (ctx0 Tryd.prog w).B w1 β1 []) (some true) 9 (ad.add (i * 9)) K = K (.agg (prf N G (.v (.slice y n c')))) .none := fun {K} => by rw [(hK1 _ hP0).prf h, hli]
        (repeat' ((first | with_reducible (first | apply cF_pure1 (by assumption) | apply cF_ev1 (by assumption)) | refine X_of _ ?_ | with_reducible (first | exact ⟨_, rfl⟩ | refine And.intro ?_ ?_ | intro _)) <;> try simp -implicitDefEqProofs (maxSteps := 1000000) (disch := first | exact dz1 | fail) only [vcR, vcT, Int.reduceBEq, Int.reduceBNe, Int.reduceEq, Int.reduceNe, Ab.part, Nat.reduceAdd, Nat.reduceMul, Nat.reduceLeDiff, Nat.reduceEqDiff, Nat.reduceBEq, Nat.reduceBNe, reduceCtorEq, ↓reduceIte, implies_true, forall_const, Int.reduceNeg, Int.reduceToNat, Int.reduceLT, Int.reduceLE, Int.reduceAdd, Int.reduceSub, Int.reduceMul, Int.reducePow, Nat.reducePow, true_or, Option.isNone_some, Option.isNone_none, vcXPb, Tryd.f34, List.toList_toArray, arr4_zero, nat4_set1, nat4_setL, nat4_set0, seqA_n,seqA_r,seqA_x,blockA_n,blockA_r,blockA_x,loopA_n,loopA_r,loopA_x,retA_n,retA_r,hx]))
        clear hx
        clear hK1 hA1 hR1 w1 β1
        refine XA_seq ?_
        refine XA_seq ?_
        refine XA_X [0] (steady_map _ _) rfl (by simp) (by simp) fun β1 w1 hR1 hA1 hK1 => ?_
        (repeat' ((first | with_reducible (first | apply cF_pure1 (by assumption) | apply cF_ev1 (by assumption)) | refine X_of _ ?_ | with_reducible (first | exact ⟨_, rfl⟩ | refine And.intro ?_ ?_ | intro _)) <;> try simp -implicitDefEqProofs (maxSteps := 1000000) (disch := first | exact dz1 | fail) only [vcR, vcT, Int.reduceBEq, Int.reduceBNe, Int.reduceEq, Int.reduceNe, Ab.part, Nat.reduceAdd, Nat.reduceMul, Nat.reduceLeDiff, Nat.reduceEqDiff, Nat.reduceBEq, Nat.reduceBNe, reduceCtorEq, ↓reduceIte, implies_true, forall_const, Int.reduceNeg, Int.reduceToNat, Int.reduceLT, Int.reduceLE, Int.reduceAdd, Int.reduceSub, Int.reduceMul, Int.reducePow, Nat.reducePow, true_or, Option.isNone_some, Option.isNone_none, vcXPb, Tryd.f34, List.toList_toArray, arr4_zero, nat4_set1, nat4_setL, nat4_set0, seqA_n,seqA_r,seqA_x,blockA_n,blockA_r,blockA_x,loopA_n,loopA_r,loopA_x,retA_n,retA_r]))
        clear hK1 hA1 hR1 w1 β1
        refine XA_X [0] (steady_map _ _) rfl (by simp) (by simp) fun β1 w1 hR1 hA1 hK1 => ?_
        have hF1 := hK1 _ hF0
        (repeat' ((first | with_reducible (first | apply cF_pure1 (by assumption) | apply cF_ev1 (by assumption)) | refine X_of _ ?_ | with_reducible (first | exact ⟨_, rfl⟩ | refine And.intro ?_ ?_ | intro _)) <;> try simp -implicitDefEqProofs (maxSteps := 1000000) (disch := first | exact dz1 | fail) only [vcR, vcT, Int.reduceBEq, Int.reduceBNe, Int.reduceEq, Int.reduceNe, Ab.part, Nat.reduceAdd, Nat.reduceMul, Nat.reduceLeDiff, Nat.reduceEqDiff, Nat.reduceBEq, Nat.reduceBNe, reduceCtorEq, ↓reduceIte, implies_true, forall_const, Int.reduceNeg, Int.reduceToNat, Int.reduceLT, Int.reduceLE, Int.reduceAdd, Int.reduceSub, Int.reduceMul, Int.reducePow, Nat.reducePow, true_or, Option.isNone_some, Option.isNone_none, vcXPb, Tryd.f34, List.toList_toArray, arr4_zero, nat4_set1, nat4_setL, nat4_set0, seqA_n,seqA_r,seqA_x,blockA_n,blockA_r,blockA_x,loopA_n,loopA_r,loopA_x,retA_n,retA_r]))
        refine X_loop (ι := Nat) (fun k => k ≤ n ∧ ∀ j, j < k → knS l i (P j) = true) (fun k => n - k) [8, 27, 28, 29, 30, 31, 32, 33, 34, 35, 36, 37]
          (fun k => [(27, .s (.v (.int .i64 (k : Nat))))])
          (fun k => []) 0 (shape_of fun k => ?_) (by decide) ?_ ?_
        · simp only [List.length_cons, List.length_nil, List.map_cons, List.map_nil, List.nodup_cons, List.nodup_nil, List.mem_cons, Nat.reduceAdd, Nat.reduceEqDiff, or_false, not_false_eq_true, forall_eq_or_imp, forall_eq, or_self, Nat.reduceLT, Nat.reduceLeDiff, and_self, List.forall_mem_cons, List.not_mem_nil, false_implies, implies_true, and_true, true_and, vcOPb]
        · simp -implicitDefEqProofs (maxSteps := 1000000) (disch := first | exact dz1 | fail) only [vcR, vcT, Int.reduceBEq, Int.reduceBNe, Int.reduceEq, Int.reduceNe, Ab.part, Nat.reduceAdd, Nat.reduceMul, Nat.reduceLeDiff, Nat.reduceEqDiff, Nat.reduceBEq, Nat.reduceBNe, reduceCtorEq, ↓reduceIte, implies_true, forall_const, Int.reduceNeg, Int.reduceToNat, Int.reduceLT, Int.reduceLE, Int.reduceAdd, Int.reduceSub, Int.reduceMul, Int.reducePow, Nat.reducePow, true_or, Option.isNone_some, Option.isNone_none, vcXPb, Tryd.f34, List.toList_toArray, again_eq]
          exact ⟨_, rfl⟩
        · intro k us2 ⟨hk, hkn⟩
          by_cases hkk : k < n
          · obtain ⟨ad2, rfl⟩ := hady (by omega)
            have hx : ∀ {K : TV → HE → Prop}, xext ((ctx0 Tryd.prog w).after (ctx0 Tryd.prog w).ev (ctx0 Tryd.prog w).B w1 β1 [0]) (some true) 5 (ad2.add (k * 5)) K = K (.agg (fac (P k) (E k))) .none := fun {K} => hF1.fac hkk
            have hhas := (has_m b (P k) (knS l i) (hPl k)).ev (V := Evo.none)
            cases hz : knS l i (P k) with
            | false =>
              rw [hz] at hhas
              (repeat' ((first | with_reducible (first | apply cF_pure1 (by assumption) | apply cF_ev1 (by assumption)) | refine X_of _ ?_ | with_reducible (first | exact ⟨_, rfl⟩ | refine And.intro ?_ ?_ | intro _)) <;> try simp -implicitDefEqProofs (maxSteps := 1000000) (disch := first | exact dz1 | fail) only [vcR, vcT, Int.reduceBEq, Int.reduceBNe, Int.reduceEq, Int.reduceNe, Ab.part, Nat.reduceAdd, Nat.reduceMul, Nat.reduceLeDiff, Nat.reduceEqDiff, Nat.reduceBEq, Nat.reduceBNe, reduceCtorEq, ↓reduceIte, implies_true, forall_const, Int.reduceNeg, Int.reduceToNat, Int.reduceLT, Int.reduceLE, Int.reduceAdd, Int.reduceSub, Int.reduceMul, Int.reducePow, Nat.reducePow, true_or, Option.isNone_some, Option.isNone_none, vcXPb, Tryd.f34, List.toList_toArray, arr4_zero, nat4_set1, nat4_setL, nat4_set0, seqA_n,seqA_r,seqA_x,blockA_n,blockA_r,blockA_x,loopA_n,loopA_r,loopA_x,retA_n,retA_r,hx]))
              have hck : ckA l i = 20 := ckA_un (k := k) (by rw [hli]; exact hkk) (by rw [hli]; exact hz)
              have hcs : ckS l m = 20 := by rw [ckS_short h40, ckU_stop h hU (by rw [hck]; decide), hck]
              exact ⟨b, _, hb, by rw [hcs], rfl, fun h => by rw [hcs] at h; cases h⟩
            | true =>
              rw [hz] at hhas
              (repeat' ((first | with_reducible (first | apply cF_pure1 (by assumption) | apply cF_ev1 (by assumption)) | refine X_of _ ?_ | with_reducible (first | exact ⟨_, rfl⟩ | refine And.intro ?_ ?_ | intro _)) <;> try simp -implicitDefEqProofs (maxSteps := 1000000) (disch := first | exact dz1 | fail) only [vcR, vcT, Int.reduceBEq, Int.reduceBNe, Int.reduceEq, Int.reduceNe, Ab.part, Nat.reduceAdd, Nat.reduceMul, Nat.reduceLeDiff, Nat.reduceEqDiff, Nat.reduceBEq, Nat.reduceBNe, reduceCtorEq, ↓reduceIte, implies_true, forall_const, Int.reduceNeg, Int.reduceToNat, Int.reduceLT, Int.reduceLE, Int.reduceAdd, Int.reduceSub, Int.reduceMul, Int.reducePow, Nat.reducePow, true_or, Option.isNone_some, Option.isNone_none, vcXPb, Tryd.f34, List.toList_toArray, arr4_zero, nat4_set1, nat4_setL, nat4_set0, seqA_n,seqA_r,seqA_x,blockA_n,blockA_r,blockA_x,loopA_n,loopA_r,loopA_x,retA_n,retA_r,hx]))
              refine ⟨k + 1, by omega, ?_⟩
              simp -implicitDefEqProofs (maxSteps := 1000000) (disch := first | exact dz1 | fail) only [vcR, vcT, Int.reduceBEq, Int.reduceBNe, Int.reduceEq, Int.reduceNe, Ab.part, Nat.reduceAdd, Nat.reduceMul, Nat.reduceLeDiff, Nat.reduceEqDiff, Nat.reduceBEq, Nat.reduceBNe, reduceCtorEq, ↓reduceIte, implies_true, forall_const, Int.reduceNeg, Int.reduceToNat, Int.reduceLT, Int.reduceLE, Int.reduceAdd, Int.reduceSub, Int.reduceMul, Int.reducePow, Nat.reducePow, true_or, Option.isNone_some, Option.isNone_none, vcXPb, Tryd.f34, List.toList_toArray, again_eq]
              refine ⟨fun j hj => ?_, _, rfl⟩
              by_cases hjk : j = k
              · subst hjk; exact hz
              · exact hkn j (by omega)
          · have : k = n := by omega
            subst this
            (repeat' ((first | with_reducible (first | apply cF_pure1 (by assumption) | apply cF_ev1 (by assumption)) | refine X_of _ ?_ | with_reducible (first | exact ⟨_, rfl⟩ | refine And.intro ?_ ?_ | intro _)) <;> try simp -implicitDefEqProofs (maxSteps := 1000000) (disch := first | exact dz1 | fail) only [vcR, vcT, Int.reduceBEq, Int.reduceBNe, Int.reduceEq, Int.reduceNe, Ab.part, Nat.reduceAdd, Nat.reduceMul, Nat.reduceLeDiff, Nat.reduceEqDiff, Nat.reduceBEq, Nat.reduceBNe, reduceCtorEq, ↓reduceIte, implies_true, forall_const, Int.reduceNeg, Int.reduceToNat, Int.reduceLT, Int.reduceLE, Int.reduceAdd, Int.reduceSub, Int.reduceMul, Int.reducePow, Nat.reducePow, true_or, Option.isNone_some, Option.isNone_none, vcXPb, Tryd.f34, List.toList_toArray, arr4_zero, nat4_set1, nat4_setL, nat4_set0, seqA_n,seqA_r,seqA_x,blockA_n,blockA_r,blockA_x,loopA_n,loopA_r,loopA_x,retA_n,retA_r]))
            have hst := (step_m N G y k c' P E hNl hGl hPl hEl hnl).ev (V := Evo.none)
            obtain ⟨e, he⟩ : ∃ e, stS N G k P E = e := ⟨_, rfl⟩
            have hck : ckA l i = e := by
              rw [ckA_st (by rw [hli]; exact hkn), hli]
              exact he
            rw [he] at hst
            clear hF1
            clear hK1 hA1 hR1 w1 β1
            by_cases he0 : e = 0
            · subst he0
              refine XA_seq (XA_X [0] (steady_map _ _) rfl (by simp) (by simp) fun β1 w1 hR1 hA1 hK1 => ?_)
              have hFL : Kn ((ctx0 Tryd.prog w).after (ctx0 Tryd.prog w).ev (ctx0 Tryd.prog w).B w1 β1 [0]) (fun _ w => facs y k P E w ∧ least w) := fun w' hw' => ⟨facs_of (hK1 _ hF0 w' hw'), least_of (hK1 _ hL0 w' hw')⟩
              (repeat' ((first | with_reducible (first | apply cF_pure1 (by assumption) | apply cF_ev1 (by assumption)) | refine X_of _ ?_ | with_reducible (first | exact ⟨_, rfl⟩ | refine And.intro ?_ ?_ | intro _)) <;> try simp -implicitDefEqProofs (maxSteps := 1000000) (disch := first | exact dz1 | fail) only [vcR, vcT, Int.reduceBEq, Int.reduceBNe, Int.reduceEq, Int.reduceNe, Ab.part, Nat.reduceAdd, Nat.reduceMul, Nat.reduceLeDiff, Nat.reduceEqDiff, Nat.reduceBEq, Nat.reduceBNe, reduceCtorEq, ↓reduceIte, implies_true, forall_const, Int.reduceNeg, Int.reduceToNat, Int.reduceLT, Int.reduceLE, Int.reduceAdd, Int.reduceSub, Int.reduceMul, Int.reducePow, Nat.reducePow, true_or, Option.isNone_some, Option.isNone_none, vcXPb, Tryd.f34, List.toList_toArray, arr4_zero, nat4_set1, nat4_setL, nat4_set0, seqA_n,seqA_r,seqA_x,blockA_n,blockA_r,blockA_x,loopA_n,loopA_r,loopA_x,retA_n,retA_r,bne_self_eq_false]))
              clear hFL hst
              clear hK1 hA1 hR1 w1 β1
              refine XA_reg ?_
              try simp -implicitDefEqProofs (maxSteps := 1000000) (disch := first | exact dz1 | fail) only [vcR, vcT, Int.reduceBEq, Int.reduceBNe, Int.reduceEq, Int.reduceNe, Ab.part, Nat.reduceAdd, Nat.reduceMul, Nat.reduceLeDiff, Nat.reduceEqDiff, Nat.reduceBEq, Nat.reduceBNe, reduceCtorEq, ↓reduceIte, implies_true, forall_const, Int.reduceNeg, Int.reduceToNat, Int.reduceLT, Int.reduceLE, Int.reduceAdd, Int.reduceSub, Int.reduceMul, Int.reducePow, Nat.reducePow, true_or, Option.isNone_some, Option.isNone_none, vcXPb, Tryd.f34, List.toList_toArray]
              refine XAR_step [0] (steady_map _ _) rfl (by simp) (by simp) fun β2 w2 hR2 hA2 hK2 => ?_
              try simp -implicitDefEqProofs (maxSteps := 1000000) (disch := first | exact dz1 | fail) only [vcR, vcT, Int.reduceBEq, Int.reduceBNe, Int.reduceEq, Int.reduceNe, Ab.part, Nat.reduceAdd, Nat.reduceMul, Nat.reduceLeDiff, Nat.reduceEqDiff, Nat.reduceBEq, Nat.reduceBNe, reduceCtorEq, ↓reduceIte, implies_true, forall_const, Int.reduceNeg, Int.reduceToNat, Int.reduceLT, Int.reduceLE, Int.reduceAdd, Int.reduceSub, Int.reduceMul, Int.reducePow, Nat.reducePow, true_or, Option.isNone_some, Option.isNone_none, vcXPb, Tryd.f34, List.toList_toArray]
              refine XAR_step [0] (steady_map _ _) rfl (by simp) (by simp) fun β2 w2 hR2 hA2 hK2 => ?_
              try simp -implicitDefEqProofs (maxSteps := 1000000) (disch := first | exact dz1 | fail) only [vcR, vcT, Int.reduceBEq, Int.reduceBNe, Int.reduceEq, Int.reduceNe, Ab.part, Nat.reduceAdd, Nat.reduceMul, Nat.reduceLeDiff, Nat.reduceEqDiff, Nat.reduceBEq, Nat.reduceBNe, reduceCtorEq, ↓reduceIte, implies_true, forall_const, Int.reduceNeg, Int.reduceToNat, Int.reduceLT, Int.reduceLE, Int.reduceAdd, Int.reduceSub, Int.reduceMul, Int.reducePow, Nat.reducePow, true_or, Option.isNone_some, Option.isNone_none, vcXPb, Tryd.f34, List.toList_toArray]
              refine XAR_step [0] (steady_map _ _) rfl (by simp) (by simp) fun β2 w2 hR2 hA2 hK2 => ?_
              try simp -implicitDefEqProofs (maxSteps := 1000000) (disch := first | exact dz1 | fail) only [vcR, vcT, Int.reduceBEq, Int.reduceBNe, Int.reduceEq, Int.reduceNe, Ab.part, Nat.reduceAdd, Nat.reduceMul, Nat.reduceLeDiff, Nat.reduceEqDiff, Nat.reduceBEq, Nat.reduceBNe, reduceCtorEq, ↓reduceIte, implies_true, forall_const, Int.reduceNeg, Int.reduceToNat, Int.reduceLT, Int.reduceLE, Int.reduceAdd, Int.reduceSub, Int.reduceMul, Int.reducePow, Nat.reducePow, true_or, Option.isNone_some, Option.isNone_none, vcXPb, Tryd.f34, List.toList_toArray]
              refine XAR_step [0] (steady_map _ _) rfl (by simp) (by simp) fun β2 w2 hR2 hA2 hK2 => ?_
              try simp -implicitDefEqProofs (maxSteps := 1000000) (disch := first | exact dz1 | fail) only [vcR, vcT, Int.reduceBEq, Int.reduceBNe, Int.reduceEq, Int.reduceNe, Ab.part, Nat.reduceAdd, Nat.reduceMul, Nat.reduceLeDiff, Nat.reduceEqDiff, Nat.reduceBEq, Nat.reduceBNe, reduceCtorEq, ↓reduceIte, implies_true, forall_const, Int.reduceNeg, Int.reduceToNat, Int.reduceLT, Int.reduceLE, Int.reduceAdd, Int.reduceSub, Int.reduceMul, Int.reducePow, Nat.reducePow, true_or, Option.isNone_some, Option.isNone_none, vcXPb, Tryd.f34, List.toList_toArray]
              refine XAR_step [0] (steady_map _ _) rfl (by simp) (by simp) fun β2 w2 hR2 hA2 hK2 => ?_
              try simp -implicitDefEqProofs (maxSteps := 1000000) (disch := first | exact dz1 | fail) only [vcR, vcT, Int.reduceBEq, Int.reduceBNe, Int.reduceEq, Int.reduceNe, Ab.part, Nat.reduceAdd, Nat.reduceMul, Nat.reduceLeDiff, Nat.reduceEqDiff, Nat.reduceBEq, Nat.reduceBNe, reduceCtorEq, ↓reduceIte, implies_true, forall_const, Int.reduceNeg, Int.reduceToNat, Int.reduceLT, Int.reduceLE, Int.reduceAdd, Int.reduceSub, Int.reduceMul, Int.reducePow, Nat.reducePow, true_or, Option.isNone_some, Option.isNone_none, vcXPb, Tryd.f34, List.toList_toArray]
              refine XAR_put mapTy (.inl rfl) hb (n := N) (z := (i : Int) + 1) hNl rfl rfl rfl ?_
              refine XAR_A (A' := MapAt b (knS l (i + 1))) (mapS hli) ?_
              try simp -implicitDefEqProofs (maxSteps := 1000000) (disch := first | exact dz1 | fail) only [vcR, vcT, Int.reduceBEq, Int.reduceBNe, Int.reduceEq, Int.reduceNe, Ab.part, Nat.reduceAdd, Nat.reduceMul, Nat.reduceLeDiff, Nat.reduceEqDiff, Nat.reduceBEq, Nat.reduceBNe, reduceCtorEq, ↓reduceIte, implies_true, forall_const, Int.reduceNeg, Int.reduceToNat, Int.reduceLT, Int.reduceLE, Int.reduceAdd, Int.reduceSub, Int.reduceMul, Int.reducePow, Nat.reducePow, true_or, Option.isNone_some, Option.isNone_none, vcXPb, Tryd.f34, List.toList_toArray]
              refine XAR_nil ?_
              try simp -implicitDefEqProofs (maxSteps := 1000000) (disch := first | exact dz1 | fail) only [vcR, vcT, Int.reduceBEq, Int.reduceBNe, Int.reduceEq, Int.reduceNe, Ab.part, Nat.reduceAdd, Nat.reduceMul, Nat.reduceLeDiff, Nat.reduceEqDiff, Nat.reduceBEq, Nat.reduceBNe, reduceCtorEq, ↓reduceIte, implies_true, forall_const, Int.reduceNeg, Int.reduceToNat, Int.reduceLT, Int.reduceLE, Int.reduceAdd, Int.reduceSub, Int.reduceMul, Int.reducePow, Nat.reducePow, true_or, Option.isNone_some, Option.isNone_none, vcXPb, Tryd.f34, List.toList_toArray, seqA_n,seqA_r,seqA_x,blockA_n,blockA_r,blockA_x,loopA_n,loopA_r,loopA_x,retA_n,retA_r]
              refine XA_X [0] (steady_map _ _) rfl (by simp) (by simp) fun β1 w1 hR1 hA1 hK1 => ?_
              (repeat' ((first | with_reducible (first | apply cF_pure1 (by assumption) | apply cF_ev1 (by assumption)) | refine X_of _ ?_ | with_reducible (first | exact ⟨_, rfl⟩ | refine And.intro ?_ ?_ | intro _)) <;> try simp -implicitDefEqProofs (maxSteps := 1000000) (disch := first | exact dz1 | fail) only [vcR, vcT, Int.reduceBEq, Int.reduceBNe, Int.reduceEq, Int.reduceNe, Ab.part, Nat.reduceAdd, Nat.reduceMul, Nat.reduceLeDiff, Nat.reduceEqDiff, Nat.reduceBEq, Nat.reduceBNe, reduceCtorEq, ↓reduceIte, implies_true, forall_const, Int.reduceNeg, Int.reduceToNat, Int.reduceLT, Int.reduceLE, Int.reduceAdd, Int.reduceSub, Int.reduceMul, Int.reducePow, Nat.reducePow, true_or, Option.isNone_some, Option.isNone_none, vcXPb, Tryd.f34, List.toList_toArray, arr4_zero, nat4_set1, nat4_setL, nat4_set0, seqA_n,seqA_r,seqA_x,blockA_n,blockA_r,blockA_x,loopA_n,loopA_r,loopA_x,retA_n,retA_r]))
              refine ⟨i + 1, by omega, ?_, rfl⟩
              simp -implicitDefEqProofs (maxSteps := 1000000) (disch := first | exact dz1 | fail) only [vcR, vcT, Int.reduceBEq, Int.reduceBNe, Int.reduceEq, Int.reduceNe, Ab.part, Nat.reduceAdd, Nat.reduceMul, Nat.reduceLeDiff, Nat.reduceEqDiff, Nat.reduceBEq, Nat.reduceBNe, reduceCtorEq, ↓reduceIte, implies_true, forall_const, Int.reduceNeg, Int.reduceToNat, Int.reduceLT, Int.reduceLE, Int.reduceAdd, Int.reduceSub, Int.reduceMul, Int.reducePow, Nat.reducePow, true_or, Option.isNone_some, Option.isNone_none, vcXPb, Tryd.f34, List.toList_toArray, again_eq]
              exact ⟨ckU_go hU hck, _, rfl⟩
            · have he' : (e != 0) = true := by simpa using he0
              refine XA_seq (XA_X [0] (steady_map _ _) rfl (by simp) (by simp) fun β1 w1 hR1 hA1 hK1 => ?_)
              have hFL : Kn ((ctx0 Tryd.prog w).after (ctx0 Tryd.prog w).ev (ctx0 Tryd.prog w).B w1 β1 [0]) (fun _ w => facs y k P E w ∧ least w) := fun w' hw' => ⟨facs_of (hK1 _ hF0 w' hw'), least_of (hK1 _ hL0 w' hw')⟩
              (repeat' ((first | with_reducible (first | apply cF_pure1 (by assumption) | apply cF_ev1 (by assumption)) | refine X_of _ ?_ | with_reducible (first | exact ⟨_, rfl⟩ | refine And.intro ?_ ?_ | intro _)) <;> try simp -implicitDefEqProofs (maxSteps := 1000000) (disch := first | exact dz1 | fail) only [vcR, vcT, Int.reduceBEq, Int.reduceBNe, Int.reduceEq, Int.reduceNe, Ab.part, Nat.reduceAdd, Nat.reduceMul, Nat.reduceLeDiff, Nat.reduceEqDiff, Nat.reduceBEq, Nat.reduceBNe, reduceCtorEq, ↓reduceIte, implies_true, forall_const, Int.reduceNeg, Int.reduceToNat, Int.reduceLT, Int.reduceLE, Int.reduceAdd, Int.reduceSub, Int.reduceMul, Int.reducePow, Nat.reducePow, true_or, Option.isNone_some, Option.isNone_none, vcXPb, Tryd.f34, List.toList_toArray, arr4_zero, nat4_set1, nat4_setL, nat4_set0, seqA_n,seqA_r,seqA_x,blockA_n,blockA_r,blockA_x,loopA_n,loopA_r,loopA_x,retA_n,retA_r,he']))
              have hcs : ckS l m = e := by rw [ckS_short h40, ckU_stop h hU (by rw [hck]; exact he0), hck]
              exact ⟨b, _, hb, by rw [hcs], rfl, fun h => absurd (hcs ▸ h) he0⟩
      · have : i = m := by omega
        subst this
        refine XA_X [] (steady_map _ _) rfl (by simp) (by simp) fun β1 w1 hR1 hA1 hK1 => ?_
        (repeat' ((first | with_reducible (first | apply cF_pure1 (by assumption) | apply cF_ev1 (by assumption)) | refine X_of _ ?_ | with_reducible (first | exact ⟨_, rfl⟩ | refine And.intro ?_ ?_ | intro _)) <;> try simp -implicitDefEqProofs (maxSteps := 1000000) (disch := first | exact dz1 | fail) only [vcR, vcT, Int.reduceBEq, Int.reduceBNe, Int.reduceEq, Int.reduceNe, Ab.part, Nat.reduceAdd, Nat.reduceMul, Nat.reduceLeDiff, Nat.reduceEqDiff, Nat.reduceBEq, Nat.reduceBNe, reduceCtorEq, ↓reduceIte, implies_true, forall_const, Int.reduceNeg, Int.reduceToNat, Int.reduceLT, Int.reduceLE, Int.reduceAdd, Int.reduceSub, Int.reduceMul, Int.reducePow, Nat.reducePow, true_or, Option.isNone_some, Option.isNone_none, vcXPb, Tryd.f34, List.toList_toArray, arr4_zero, nat4_set1, nat4_setL, nat4_set0, seqA_n,seqA_r,seqA_x,blockA_n,blockA_r,blockA_x,loopA_n,loopA_r,loopA_x,retA_n,retA_r]))
        clear hK1 hA1 hR1 w1 β1
        refine XA_X [] (steady_map _ _) rfl (by simp) (by simp) fun β1 w1 hR1 hA1 hK1 => ?_
        (repeat' ((first | with_reducible (first | apply cF_pure1 (by assumption) | apply cF_ev1 (by assumption)) | refine X_of _ ?_ | with_reducible (first | exact ⟨_, rfl⟩ | refine And.intro ?_ ?_ | intro _)) <;> try simp -implicitDefEqProofs (maxSteps := 1000000) (disch := first | exact dz1 | fail) only [vcR, vcT, Int.reduceBEq, Int.reduceBNe, Int.reduceEq, Int.reduceNe, Ab.part, Nat.reduceAdd, Nat.reduceMul, Nat.reduceLeDiff, Nat.reduceEqDiff, Nat.reduceBEq, Nat.reduceBNe, reduceCtorEq, ↓reduceIte, implies_true, forall_const, Int.reduceNeg, Int.reduceToNat, Int.reduceLT, Int.reduceLE, Int.reduceAdd, Int.reduceSub, Int.reduceMul, Int.reducePow, Nat.reducePow, true_or, Option.isNone_some, Option.isNone_none, vcXPb, Tryd.f34, List.toList_toArray, arr4_zero, nat4_set1, nat4_setL, nat4_set0, seqA_n,seqA_r,seqA_x,blockA_n,blockA_r,blockA_x,loopA_n,loopA_r,loopA_x,retA_n,retA_r]))
        exact ⟨b, _, hb, by rw [ckS_short h40, hU], rfl, fun _ => rfl⟩
end Go.Proofs.YthniflakjkbpiaaDoor
