/-
  pratt: what a list proves.
  pratt: is a list one, and what it proves.
  group: New.
  The laws of groups in plain numbers.
  share: the second question of Right.
  share: Right.
  group: New, where a group is made.
  A small group is made: what the laws share.
  sortitionlaw10.small; sortitionref03.Nats, where rows are alike.
  What values count for, as it is reckoned.
  modq: what a value counts for.
-/
import Derived.Test.YtdmcknmjdlghgaaDoorT01
import Derived.Test.YtdmcknmjdlghgaaDoorT02
import Derived.Test.YtdmcknmjdlghgaaDoorT03
import Derived.Test.YtdmcknmjdlghgaaDoorT04
import Derived.Test.YtdmcknmjdlghgaaDoorT05
import Derived.Test.YtdmcknmjdlghgaaDoorT06
import Derived.Test.YtdmcknmjdlghgaaDoorT07
import Derived.Test.YtdmcknmjdlghgaaDoorT10
import Derived.Test.YtdmcknmjdlghgaaDoorT11
import Derived.Test.YtdmcknmjdlghgaaDoorT12
import Derived.Test.YtdmcknmjdlghgaaDoorT14
namespace Go.Proofs.YtdmcknmjdlghgaaDoor
open Go Go.Ab
set_option linter.unusedSimpArgs false
set_option linter.unusedVariables false
set_option linter.defProp false
set_option maxHeartbeats 20000000
set_option maxRecDepth 100000
theorem seqA_n {K : KA} {Q : QA} {T : List TV} {H : Heap} {A : World → Prop} : seqA K Q .normal T H A = K T H A := rfl
theorem seqA_r {K : KA} {Q : QA} {T : List TV} {H : Heap} {A : World → Prop} : seqA K Q .ret T H A = Q .ret T H A := rfl
theorem seqA_x {K : KA} {Q : QA} {T : List TV} {H : Heap} {A : World → Prop} {i : Nat} : seqA K Q (.exit i) T H A = Q (.exit i) T H A := rfl
theorem blockA_n {id : Nat} {Q : QA} {T : List TV} {H : Heap} {A : World → Prop} : blockA id Q .normal T H A = Q .normal T H A := rfl
theorem blockA_r {id : Nat} {Q : QA} {T : List TV} {H : Heap} {A : World → Prop} : blockA id Q .ret T H A = Q .ret T H A := rfl
theorem blockA_x {id i : Nat} {Q : QA} {T : List TV} {H : Heap} {A : World → Prop} : blockA id Q (.exit i) T H A = if i = id then Q .normal T H A else Q (.exit i) T H A := rfl
theorem retA_n {P : Program} {rs : List ResultVar} {R : TV → Heap → (World → Prop) → Prop} {T : List TV} {H : Heap} {A : World → Prop} : retA P rs R .normal T H A = retV (resAll P T H rs) fun v => R v H A := rfl
theorem retA_r {P : Program} {rs : List ResultVar} {R : TV → Heap → (World → Prop) → Prop} {T : List TV} {H : Heap} {A : World → Prop} : retA P rs R .ret T H A = retV (resAll P T H rs) fun v => R v H A := rfl
section
variable {ι : Type} {T0 : List TV} {H0 : Heap} {V : ι → Prop} {μ : ι → Nat} {js : List Nat} {sv : ι → List (Nat × TV)} {hv : ι → List (Nat × List SV)} {AA : ι → World → Prop} {i : ι} {Q : QA} {T : List TV} {H : Heap} {A : World → Prop}
theorem loopA_n : loopA T0 H0 V μ js sv hv AA i Q .normal T H A = ∃ i', μ i' < μ i ∧ Again T0 H0 V js sv hv T H i' ∧ A = AA i' := rfl
theorem loopA_r : loopA T0 H0 V μ js sv hv AA i Q .ret T H A = Q .ret T H A := rfl
theorem loopA_x {j : Nat} : loopA T0 H0 V μ js sv hv AA i Q (.exit j) T H A = Q (.exit j) T H A := rfl
end
def CkR (w : World) (l : Nat → Pf) (m : Nat) (v : TV) (A : World → Prop) : Prop :=
  ∃ b p, w.heap.size ≤ b ∧ v = .tup [.s (.v (.map (some b))), .s (.v (.int .i64 (ckS l m)))] ∧ A = MapAt b p ∧ (ckS l m = 0 → p = knS l m)
theorem XAR_A {Γ : Ctx} {A A' : World → Prop} {ops : Array Oper} {l : List Oper} {T : List TV} {H : Heap} {K : KA} (h : A = A') (hx : XAR Γ A' ops l T H K) : XAR Γ A ops l T H K := by rw [h]; exact hx
theorem mapS {b i N G n c : Nat} {l : Nat → Pf} {y : Option Addr} {P : Nat → Nat} {E : Nat → Int} (h : l i = ⟨N, G, y, n, c, P, E⟩) : MapAt b (fun q => knS l i q || q == N) = MapAt b (knS l (i + 1)) := by
  congr 1
  funext q
  rw [knS_succ, h]
theorem map0 (b : Nat) (l : Nat → Pf) : MapAt b (fun i => (fun _ => false) i || i == 2) = MapAt b (knS l 0) := by
  congr 1
  funext i
  rw [knS_zero, Bool.false_or]
theorem check_c (x : Option Addr) (m c : Nat) (l : Nat → Pf) (hl : PfOk l) (hm : m < 9223372036854775808) (w : World) (hp : prfs x m l w) (h2 : least w) :
    Calls Tryd.prog 73 ([TV.s (.v (.slice x m c))].map (TV.conc fun _ => 0)).toArray w fun e w' => ∃ v H' A' β', CkR w l m v A' ∧ A' w' ∧ Rep (ctx0 Tryd.prog w) H' β' w' ∧ ∀ β'', Agrees H'.length β' β'' → e = .returned (v.conc β'') := by
  refine calls_of_XA (Γ := ctx0 Tryd.prog w) (A := fun _ => True) (R := fun v H A => CkR w l m v A) Tryd.func73 rfl (rep0 Tryd.prog w fun _ => 0) trivial (by simp only [List.length_cons, List.length_nil, List.map_cons, List.map_nil, List.nodup_cons, List.nodup_nil, List.mem_cons, Nat.reduceAdd, Nat.reduceEqDiff, or_false, not_false_eq_true, forall_eq_or_imp, forall_eq, or_self, Nat.reduceLT, Nat.reduceLeDiff, and_self, List.forall_mem_cons, List.not_mem_nil, false_implies, implies_true, and_true, true_and, vcOPb]) ?_
  simp only [List.length_cons, List.length_nil, Tryd.ntmps73, Nat.reduceAdd, Nat.reduceSub, List.replicate_succ, List.replicate_zero, List.cons_append, List.nil_append]
  have hP0 := prfs_kn (P0 := Tryd.prog) hp
  have hL0 := least_kn (P0 := Tryd.prog) h2
  have hadr : m ≠ 0 → ∃ ad, x = some ad := fun h => by
    rcases hp.1 with h0 | ⟨ad, h0, _⟩
    · omega
    · exact ⟨ad, h0⟩
  clear hp h2
  refine XA_seq (XA_X [] steady_true rfl (by simp) (by simp) fun β1 w1 hR1 hA1 hK1 => ?_)
  (repeat' ((first | with_reducible (first | apply cF_pure1 (by assumption) | apply cF_ev1 (by assumption)) | refine X_of _ ?_ | with_reducible (first | exact ⟨_, rfl⟩ | refine And.intro ?_ ?_ | intro _)) <;> try simp -implicitDefEqProofs (maxSteps := 1000000) (disch := first | exact dz1 | fail) only [vcR, vcT, simprocAttr, Ab.part, implies_true, forall_const, true_or, Option.isNone_some, Option.isNone_none, vcXPb, Tryd.f73, List.toList_toArray, arr4_zero, nat4_set1, nat4_setL, nat4_set0, seqA_n]))
  clear hR1 hA1 hK1 β1 w1
  refine XA_seq (XA_reg (XAR_mk fun b hb => ?_))
  try simp -implicitDefEqProofs (maxSteps := 1000000) (disch := first | exact dz1 | fail) only [vcR, vcT, simprocAttr, Ab.part, implies_true, forall_const, true_or, Option.isNone_some, Option.isNone_none, vcXPb, Tryd.f73, List.toList_toArray]
  refine XAR_step [] (steady_map _ _) rfl (by simp) (by simp) fun β2 w2 hR2 hA2 hK2 => ?_
  have hg : ∀ {K : TV → HE → Prop}, xext ((ctx0 Tryd.prog w).after (ctx0 Tryd.prog w).ev (ctx0 Tryd.prog w).B w2 β2 []) (some true) 4 ⟨3, 0, none⟩ K = K (.agg (nat4 2)) .none := fun {K} => (hK2 _ hL0).least
  try simp -implicitDefEqProofs (maxSteps := 1000000) (disch := first | exact dz1 | fail) only [vcR, vcT, simprocAttr, Ab.part, implies_true, forall_const, true_or, Option.isNone_some, Option.isNone_none, vcXPb, Tryd.f73, List.toList_toArray, hg]
  clear hg hR2 hA2 hK2 β2 w2
  refine XAR_put mapTy (.inr rfl) hb (n := 2) (z := 0) (by decide) rfl rfl rfl ?_
  refine XAR_A (map0 b l) ?_
  try simp -implicitDefEqProofs (maxSteps := 1000000) (disch := first | exact dz1 | fail) only [vcR, vcT, simprocAttr, Ab.part, implies_true, forall_const, true_or, Option.isNone_some, Option.isNone_none, vcXPb, Tryd.f73, List.toList_toArray]
  refine XAR_step [] (steady_map _ _) rfl (by simp) (by simp) fun β2 w2 hR2 hA2 hK2 => ?_
  try simp -implicitDefEqProofs (maxSteps := 1000000) (disch := first | exact dz1 | fail) only [vcR, vcT, simprocAttr, Ab.part, implies_true, forall_const, true_or, Option.isNone_some, Option.isNone_none, vcXPb, Tryd.f73, List.toList_toArray]
  clear hK2 hA2 hR2 w2 β2
  refine XAR_step [] (steady_map _ _) rfl (by simp) (by simp) fun β2 w2 hR2 hA2 hK2 => ?_
  try simp -implicitDefEqProofs (maxSteps := 1000000) (disch := first | exact dz1 | fail) only [vcR, vcT, simprocAttr, Ab.part, implies_true, forall_const, true_or, Option.isNone_some, Option.isNone_none, vcXPb, Tryd.f73, List.toList_toArray]
  clear hK2 hA2 hR2 w2 β2
  refine XAR_nil ?_
  try simp -implicitDefEqProofs (maxSteps := 1000000) (disch := first | exact dz1 | fail) only [vcR, vcT, simprocAttr, Ab.part, implies_true, forall_const, true_or, Option.isNone_some, Option.isNone_none, vcXPb, Tryd.f73, List.toList_toArray, seqA_n]
  by_cases h40 : 40 < m
  · have h40' : (40 : Int) < (m : Int) := by omega
    refine XA_seq (XA_X [] (steady_map _ _) rfl (by simp) (by simp) fun β1 w1 hR1 hA1 hK1 => ?_)
    (repeat' ((first | with_reducible (first | apply cF_pure1 (by assumption) | apply cF_ev1 (by assumption)) | refine X_of _ ?_ | with_reducible (first | exact ⟨_, rfl⟩ | refine And.intro ?_ ?_ | intro _)) <;> try simp -implicitDefEqProofs (maxSteps := 1000000) (disch := first | exact dz1 | fail) only [vcR, vcT, simprocAttr, Ab.part, implies_true, forall_const, true_or, Option.isNone_some, Option.isNone_none, vcXPb, Tryd.f73, List.toList_toArray, arr4_zero, nat4_set1, nat4_setL, nat4_set0, seqA_n,seqA_r,seqA_x,blockA_n,blockA_r,blockA_x,loopA_n,loopA_r,loopA_x,retA_n,retA_r,h40']))
    exact ⟨b, _, hb, by rw [ckS_long h40], rfl, fun h => by rw [ckS_long h40] at h; cases h⟩
  · have h40' : ¬ (40 : Int) < (m : Int) := by omega
    refine XA_seq (XA_X [] (steady_map _ _) rfl (by simp) (by simp) fun β1 w1 hR1 hA1 hK1 => ?_)
    (repeat' ((first | with_reducible (first | apply cF_pure1 (by assumption) | apply cF_ev1 (by assumption)) | refine X_of _ ?_ | with_reducible (first | exact ⟨_, rfl⟩ | refine And.intro ?_ ?_ | intro _)) <;> try simp -implicitDefEqProofs (maxSteps := 1000000) (disch := first | exact dz1 | fail) only [vcR, vcT, simprocAttr, Ab.part, implies_true, forall_const, true_or, Option.isNone_some, Option.isNone_none, vcXPb, Tryd.f73, List.toList_toArray, arr4_zero, nat4_set1, nat4_setL, nat4_set0, seqA_n,seqA_r,seqA_x,blockA_n,blockA_r,blockA_x,loopA_n,loopA_r,loopA_x,retA_n,retA_r,h40']))
    clear hK1 hA1 hR1 w1 β1
    refine XA_seq (XA_seq (XA_X [] (steady_map _ _) rfl (by simp) (by simp) fun β1 w1 hR1 hA1 hK1 => ?_))
    (repeat' ((first | with_reducible (first | apply cF_pure1 (by assumption) | apply cF_ev1 (by assumption)) | refine X_of _ ?_ | with_reducible (first | exact ⟨_, rfl⟩ | refine And.intro ?_ ?_ | intro _)) <;> try simp -implicitDefEqProofs (maxSteps := 1000000) (disch := first | exact dz1 | fail) only [vcR, vcT, simprocAttr, Ab.part, implies_true, forall_const, true_or, Option.isNone_some, Option.isNone_none, vcXPb, Tryd.f73, List.toList_toArray, arr4_zero, nat4_set1, nat4_setL, nat4_set0, seqA_n,seqA_r,seqA_x,blockA_n,blockA_r,blockA_x,loopA_n,loopA_r,loopA_x,retA_n,retA_r]))
    clear hK1 hA1 hR1 w1 β1
    refine XA_block (XA_loop (ι := Nat) (fun i => i ≤ m ∧ ckU l i = 0) (fun i => m - i) [5, 6, 7, 8, 9, 19, 20, 21, 22, 23, 24, 25, 26, 27, 28, 29, 30, 31, 32, 33, 34, 35, 36, 37, 38, 39, 40, 41, 42, 43, 44, 45, 46, 47, 48, 49]
      (fun i => [(19, .s (.v (.int .i64 (i : Nat))))]) (fun i => []) (fun i => MapAt b (knS l i)) 0 (shape_of fun i => ?_) (by decide) ?_ rfl ?_)
    · simp only [List.length_cons, List.length_nil, List.map_cons, List.map_nil, List.nodup_cons, List.nodup_nil, List.mem_cons, Nat.reduceAdd, Nat.reduceEqDiff, or_false, not_false_eq_true, forall_eq_or_imp, forall_eq, or_self, Nat.reduceLT, Nat.reduceLeDiff, and_self, List.forall_mem_cons, List.not_mem_nil, false_implies, implies_true, and_true, true_and, vcOPb]
    · simp -implicitDefEqProofs (maxSteps := 1000000) (disch := first | exact dz1 | fail) only [vcR, vcT, simprocAttr, Ab.part, implies_true, forall_const, true_or, Option.isNone_some, Option.isNone_none, vcXPb, Tryd.f73, List.toList_toArray, again_eq]
      exact ⟨rfl, _, rfl⟩
    · intro i us ⟨hi, hU⟩
      try simp -implicitDefEqProofs (maxSteps := 1000000) (disch := first | exact dz1 | fail) only [vcR, vcT, simprocAttr, Ab.part, implies_true, forall_const, true_or, Option.isNone_some, Option.isNone_none, vcXPb, Tryd.f73, List.toList_toArray]
      by_cases h : i < m
      · obtain ⟨ad, rfl⟩ := hadr (by omega)
        refine XA_seq (XA_X [] (steady_map _ _) rfl (by simp) (by simp) fun β1 w1 hR1 hA1 hK1 => ?_)
        (repeat' ((first | with_reducible (first | apply cF_pure1 (by assumption) | apply cF_ev1 (by assumption)) | refine X_of _ ?_ | with_reducible (first | exact ⟨_, rfl⟩ | refine And.intro ?_ ?_ | intro _)) <;> try simp -implicitDefEqProofs (maxSteps := 1000000) (disch := first | exact dz1 | fail) only [vcR, vcT, simprocAttr, Ab.part, implies_true, forall_const, true_or, Option.isNone_some, Option.isNone_none, vcXPb, Tryd.f73, List.toList_toArray, arr4_zero, nat4_set1, nat4_setL, nat4_set0, seqA_n,seqA_r,seqA_x,blockA_n,blockA_r,blockA_x,loopA_n,loopA_r,loopA_x,retA_n,retA_r]))
        clear hK1 hA1 hR1 w1 β1
        obtain ⟨p, hli⟩ : ∃ p, l i = p := ⟨_, rfl⟩
        obtain ⟨N, G, y, n, c', P, E⟩ := p
        have hNl : N < 2 ^ 256 := by have := hl.N i; rwa [hli] at this
        have hGl : G < 2 ^ 256 := by have := hl.G i; rwa [hli] at this
        have hPl : ∀ k, P k < 2 ^ 256 := fun k => by have := hl.P i k; rwa [hli] at this
        have hEl : ∀ k, -9223372036854775808 ≤ E k ∧ E k < 9223372036854775808 := fun k => by have := hl.E i k; rwa [hli] at this
        have hnl : n < 9223372036854775808 := by have := hl.n i; rwa [hli] at this
        have hF0 : Kn (ctx0 Tryd.prog w) (facsAt Evo.none y n P E) := by have := hP0.prfF h; rwa [hli] at this
        have hady : n ≠ 0 → ∃ ad, y = some ad := fun h => by
          rcases hF0 _ (FrP.now _) with h0 | ⟨ad, h0, _⟩
          · exact absurd h0 h
          · exact ⟨ad, h0⟩
        refine XA_seq (XA_X [] (steady_map _ _) rfl (by simp) (by simp) fun β1 w1 hR1 hA1 hK1 => ?_)
        (repeat' ((first | with_reducible (first | apply cF_pure1 (by assumption) | apply cF_ev1 (by assumption)) | refine X_of _ ?_ | with_reducible (first | exact ⟨_, rfl⟩ | refine And.intro ?_ ?_ | intro _)) <;> try simp -implicitDefEqProofs (maxSteps := 1000000) (disch := first | exact dz1 | fail) only [vcR, vcT, simprocAttr, Ab.part, implies_true, forall_const, true_or, Option.isNone_some, Option.isNone_none, vcXPb, Tryd.f73, List.toList_toArray, arr4_zero, nat4_set1, nat4_setL, nat4_set0, seqA_n,seqA_r,seqA_x,blockA_n,blockA_r,blockA_x,loopA_n,loopA_r,loopA_x,retA_n,retA_r]))
        clear hK1 hA1 hR1 w1 β1
        refine XA_seq (XA_block ?_)
        refine XA_seq ?_
        refine (XA_X [] (steady_map _ _) rfl (by simp) (by simp) fun β1 w1 hR1 hA1 hK1 => ?_)
        have hx : ∀ {K : TV → HE → Prop}, xext ((ctx0 Tryd.prog w).after (ctx0 Tryd.prog w).ev (ctx0 Tryd.prog w).B w1 β1 []) (some true) 9 (ad.add (i * 9)) K = K (.agg (prf N G (.v (.slice y n c')))) .none := fun {K} => by rw [(hK1 _ hP0).prf h, hli]
        (repeat' ((first | with_reducible (first | apply cF_pure1 (by assumption) | apply cF_ev1 (by assumption)) | refine X_of _ ?_ | with_reducible (first | exact ⟨_, rfl⟩ | refine And.intro ?_ ?_ | intro _)) <;> try simp -implicitDefEqProofs (maxSteps := 1000000) (disch := first | exact dz1 | fail) only [vcR, vcT, simprocAttr, Ab.part, implies_true, forall_const, true_or, Option.isNone_some, Option.isNone_none, vcXPb, Tryd.f73, List.toList_toArray, arr4_zero, nat4_set1, nat4_setL, nat4_set0, seqA_n,seqA_r,seqA_x,blockA_n,blockA_r,blockA_x,loopA_n,loopA_r,loopA_x,retA_n,retA_r,hx]))
        clear hx
        clear hK1 hA1 hR1 w1 β1
        refine XA_seq ?_
        refine XA_seq ?_
        refine XA_X [0] (steady_map _ _) rfl (by simp) (by simp) fun β1 w1 hR1 hA1 hK1 => ?_
        (repeat' ((first | with_reducible (first | apply cF_pure1 (by assumption) | apply cF_ev1 (by assumption)) | refine X_of _ ?_ | with_reducible (first | exact ⟨_, rfl⟩ | refine And.intro ?_ ?_ | intro _)) <;> try simp -implicitDefEqProofs (maxSteps := 1000000) (disch := first | exact dz1 | fail) only [vcR, vcT, simprocAttr, Ab.part, implies_true, forall_const, true_or, Option.isNone_some, Option.isNone_none, vcXPb, Tryd.f73, List.toList_toArray, arr4_zero, nat4_set1, nat4_setL, nat4_set0, seqA_n,seqA_r,seqA_x,blockA_n,blockA_r,blockA_x,loopA_n,loopA_r,loopA_x,retA_n,retA_r]))
        clear hK1 hA1 hR1 w1 β1
        refine XA_X [0] (steady_map _ _) rfl (by simp) (by simp) fun β1 w1 hR1 hA1 hK1 => ?_
        have hF1 := hK1 _ hF0
        (repeat' ((first | with_reducible (first | apply cF_pure1 (by assumption) | apply cF_ev1 (by assumption)) | refine X_of _ ?_ | with_reducible (first | exact ⟨_, rfl⟩ | refine And.intro ?_ ?_ | intro _)) <;> try simp -implicitDefEqProofs (maxSteps := 1000000) (disch := first | exact dz1 | fail) only [vcR, vcT, simprocAttr, Ab.part, implies_true, forall_const, true_or, Option.isNone_some, Option.isNone_none, vcXPb, Tryd.f73, List.toList_toArray, arr4_zero, nat4_set1, nat4_setL, nat4_set0, seqA_n,seqA_r,seqA_x,blockA_n,blockA_r,blockA_x,loopA_n,loopA_r,loopA_x,retA_n,retA_r]))
        refine X_loop (ι := Nat) (fun k => k ≤ n ∧ ∀ j, j < k → knS l i (P j) = true) (fun k => n - k) [8, 27, 28, 29, 30, 31, 32, 33, 34, 35, 36, 37]
          (fun k => [(27, .s (.v (.int .i64 (k : Nat))))])
          (fun k => []) 0 (shape_of fun k => ?_) (by decide) ?_ ?_
        · simp only [List.length_cons, List.length_nil, List.map_cons, List.map_nil, List.nodup_cons, List.nodup_nil, List.mem_cons, Nat.reduceAdd, Nat.reduceEqDiff, or_false, not_false_eq_true, forall_eq_or_imp, forall_eq, or_self, Nat.reduceLT, Nat.reduceLeDiff, and_self, List.forall_mem_cons, List.not_mem_nil, false_implies, implies_true, and_true, true_and, vcOPb]
        · simp -implicitDefEqProofs (maxSteps := 1000000) (disch := first | exact dz1 | fail) only [vcR, vcT, simprocAttr, Ab.part, implies_true, forall_const, true_or, Option.isNone_some, Option.isNone_none, vcXPb, Tryd.f73, List.toList_toArray, again_eq]
          exact ⟨_, rfl⟩
        · intro k us2 ⟨hk, hkn⟩
          by_cases hkk : k < n
          · obtain ⟨ad2, rfl⟩ := hady (by omega)
            have hx : ∀ {K : TV → HE → Prop}, xext ((ctx0 Tryd.prog w).after (ctx0 Tryd.prog w).ev (ctx0 Tryd.prog w).B w1 β1 [0]) (some true) 5 (ad2.add (k * 5)) K = K (.agg (fac (P k) (E k))) .none := fun {K} => hF1.fac hkk
            have hhas := (has_m b (P k) (knS l i) (hPl k)).ev (V := Evo.none)
            cases hz : knS l i (P k) with
            | false =>
              rw [hz] at hhas
              (repeat' ((first | with_reducible (first | apply cF_pure1 (by assumption) | apply cF_ev1 (by assumption)) | refine X_of _ ?_ | with_reducible (first | exact ⟨_, rfl⟩ | refine And.intro ?_ ?_ | intro _)) <;> try simp -implicitDefEqProofs (maxSteps := 1000000) (disch := first | exact dz1 | fail) only [vcR, vcT, simprocAttr, Ab.part, implies_true, forall_const, true_or, Option.isNone_some, Option.isNone_none, vcXPb, Tryd.f73, List.toList_toArray, arr4_zero, nat4_set1, nat4_setL, nat4_set0, seqA_n,seqA_r,seqA_x,blockA_n,blockA_r,blockA_x,loopA_n,loopA_r,loopA_x,retA_n,retA_r,hx]))
              have hck : ckA l i = 20 := ckA_un (k := k) (by rw [hli]; exact hkk) (by rw [hli]; exact hz)
              have hcs : ckS l m = 20 := by rw [ckS_short h40, ckU_stop h hU (by rw [hck]; decide), hck]
              exact ⟨b, _, hb, by rw [hcs], rfl, fun h => by rw [hcs] at h; cases h⟩
            | true =>
              rw [hz] at hhas
              (repeat' ((first | with_reducible (first | apply cF_pure1 (by assumption) | apply cF_ev1 (by assumption)) | refine X_of _ ?_ | with_reducible (first | exact ⟨_, rfl⟩ | refine And.intro ?_ ?_ | intro _)) <;> try simp -implicitDefEqProofs (maxSteps := 1000000) (disch := first | exact dz1 | fail) only [vcR, vcT, simprocAttr, Ab.part, implies_true, forall_const, true_or, Option.isNone_some, Option.isNone_none, vcXPb, Tryd.f73, List.toList_toArray, arr4_zero, nat4_set1, nat4_setL, nat4_set0, seqA_n,seqA_r,seqA_x,blockA_n,blockA_r,blockA_x,loopA_n,loopA_r,loopA_x,retA_n,retA_r,hx]))
              refine ⟨k + 1, by omega, ?_⟩
              simp -implicitDefEqProofs (maxSteps := 1000000) (disch := first | exact dz1 | fail) only [vcR, vcT, simprocAttr, Ab.part, implies_true, forall_const, true_or, Option.isNone_some, Option.isNone_none, vcXPb, Tryd.f73, List.toList_toArray, again_eq]
              refine ⟨fun j hj => ?_, _, rfl⟩
              by_cases hjk : j = k
              · subst hjk; exact hz
              · exact hkn j (by omega)
          · have : k = n := by omega
            subst this
            (repeat' ((first | with_reducible (first | apply cF_pure1 (by assumption) | apply cF_ev1 (by assumption)) | refine X_of _ ?_ | with_reducible (first | exact ⟨_, rfl⟩ | refine And.intro ?_ ?_ | intro _)) <;> try simp -implicitDefEqProofs (maxSteps := 1000000) (disch := first | exact dz1 | fail) only [vcR, vcT, simprocAttr, Ab.part, implies_true, forall_const, true_or, Option.isNone_some, Option.isNone_none, vcXPb, Tryd.f73, List.toList_toArray, arr4_zero, nat4_set1, nat4_setL, nat4_set0, seqA_n,seqA_r,seqA_x,blockA_n,blockA_r,blockA_x,loopA_n,loopA_r,loopA_x,retA_n,retA_r]))
            have hst := (step_m N G y k c' P E hNl hGl hPl hEl hnl).ev (V := Evo.none)
            obtain ⟨e, he⟩ : ∃ e, stS N G k P E = e := ⟨_, rfl⟩
            have hck : ckA l i = e := by
              rw [ckA_st (by rw [hli]; exact hkn), hli]
              exact he
            rw [he] at hst
            clear hF1
            clear hK1 hA1 hR1 w1 β1
            by_cases he0 : e = 0
            · subst he0
              refine XA_seq (XA_X [0] (steady_map _ _) rfl (by simp) (by simp) fun β1 w1 hR1 hA1 hK1 => ?_)
              have hFL : Kn ((ctx0 Tryd.prog w).after (ctx0 Tryd.prog w).ev (ctx0 Tryd.prog w).B w1 β1 [0]) (fun _ w => facs y k P E w ∧ least w) := fun w' hw' => ⟨facs_of (hK1 _ hF0 w' hw'), least_of (hK1 _ hL0 w' hw')⟩
              (repeat' ((first | with_reducible (first | apply cF_pure1 (by assumption) | apply cF_ev1 (by assumption)) | refine X_of _ ?_ | with_reducible (first | exact ⟨_, rfl⟩ | refine And.intro ?_ ?_ | intro _)) <;> try simp -implicitDefEqProofs (maxSteps := 1000000) (disch := first | exact dz1 | fail) only [vcR, vcT, simprocAttr, Ab.part, implies_true, forall_const, true_or, Option.isNone_some, Option.isNone_none, vcXPb, Tryd.f73, List.toList_toArray, arr4_zero, nat4_set1, nat4_setL, nat4_set0, seqA_n,seqA_r,seqA_x,blockA_n,blockA_r,blockA_x,loopA_n,loopA_r,loopA_x,retA_n,retA_r,bne_self_eq_false]))
              clear hFL hst
              clear hK1 hA1 hR1 w1 β1
              refine XA_reg ?_
              try simp -implicitDefEqProofs (maxSteps := 1000000) (disch := first | exact dz1 | fail) only [vcR, vcT, simprocAttr, Ab.part, implies_true, forall_const, true_or, Option.isNone_some, Option.isNone_none, vcXPb, Tryd.f73, List.toList_toArray]
              refine XAR_step [0] (steady_map _ _) rfl (by simp) (by simp) fun β2 w2 hR2 hA2 hK2 => ?_
              try simp -implicitDefEqProofs (maxSteps := 1000000) (disch := first | exact dz1 | fail) only [vcR, vcT, simprocAttr, Ab.part, implies_true, forall_const, true_or, Option.isNone_some, Option.isNone_none, vcXPb, Tryd.f73, List.toList_toArray]
              refine XAR_step [0] (steady_map _ _) rfl (by simp) (by simp) fun β2 w2 hR2 hA2 hK2 => ?_
              try simp -implicitDefEqProofs (maxSteps := 1000000) (disch := first | exact dz1 | fail) only [vcR, vcT, simprocAttr, Ab.part, implies_true, forall_const, true_or, Option.isNone_some, Option.isNone_none, vcXPb, Tryd.f73, List.toList_toArray]
              refine XAR_step [0] (steady_map _ _) rfl (by simp) (by simp) fun β2 w2 hR2 hA2 hK2 => ?_
              try simp -implicitDefEqProofs (maxSteps := 1000000) (disch := first | exact dz1 | fail) only [vcR, vcT, simprocAttr, Ab.part, implies_true, forall_const, true_or, Option.isNone_some, Option.isNone_none, vcXPb, Tryd.f73, List.toList_toArray]
              refine XAR_step [0] (steady_map _ _) rfl (by simp) (by simp) fun β2 w2 hR2 hA2 hK2 => ?_
              try simp -implicitDefEqProofs (maxSteps := 1000000) (disch := first | exact dz1 | fail) only [vcR, vcT, simprocAttr, Ab.part, implies_true, forall_const, true_or, Option.isNone_some, Option.isNone_none, vcXPb, Tryd.f73, List.toList_toArray]
              refine XAR_step [0] (steady_map _ _) rfl (by simp) (by simp) fun β2 w2 hR2 hA2 hK2 => ?_
              try simp -implicitDefEqProofs (maxSteps := 1000000) (disch := first | exact dz1 | fail) only [vcR, vcT, simprocAttr, Ab.part, implies_true, forall_const, true_or, Option.isNone_some, Option.isNone_none, vcXPb, Tryd.f73, List.toList_toArray]
              refine XAR_put mapTy (.inl rfl) hb (n := N) (z := (i : Int) + 1) hNl rfl rfl rfl ?_
              refine XAR_A (A' := MapAt b (knS l (i + 1))) (mapS hli) ?_
              try simp -implicitDefEqProofs (maxSteps := 1000000) (disch := first | exact dz1 | fail) only [vcR, vcT, simprocAttr, Ab.part, implies_true, forall_const, true_or, Option.isNone_some, Option.isNone_none, vcXPb, Tryd.f73, List.toList_toArray]
              refine XAR_nil ?_
              try simp -implicitDefEqProofs (maxSteps := 1000000) (disch := first | exact dz1 | fail) only [vcR, vcT, simprocAttr, Ab.part, implies_true, forall_const, true_or, Option.isNone_some, Option.isNone_none, vcXPb, Tryd.f73, List.toList_toArray, seqA_n,seqA_r,seqA_x,blockA_n,blockA_r,blockA_x,loopA_n,loopA_r,loopA_x,retA_n,retA_r]
              refine XA_X [0] (steady_map _ _) rfl (by simp) (by simp) fun β1 w1 hR1 hA1 hK1 => ?_
              (repeat' ((first | with_reducible (first | apply cF_pure1 (by assumption) | apply cF_ev1 (by assumption)) | refine X_of _ ?_ | with_reducible (first | exact ⟨_, rfl⟩ | refine And.intro ?_ ?_ | intro _)) <;> try simp -implicitDefEqProofs (maxSteps := 1000000) (disch := first | exact dz1 | fail) only [vcR, vcT, simprocAttr, Ab.part, implies_true, forall_const, true_or, Option.isNone_some, Option.isNone_none, vcXPb, Tryd.f73, List.toList_toArray, arr4_zero, nat4_set1, nat4_setL, nat4_set0, seqA_n,seqA_r,seqA_x,blockA_n,blockA_r,blockA_x,loopA_n,loopA_r,loopA_x,retA_n,retA_r]))
              refine ⟨i + 1, by omega, ?_, rfl⟩
              simp -implicitDefEqProofs (maxSteps := 1000000) (disch := first | exact dz1 | fail) only [vcR, vcT, simprocAttr, Ab.part, implies_true, forall_const, true_or, Option.isNone_some, Option.isNone_none, vcXPb, Tryd.f73, List.toList_toArray, again_eq]
              exact ⟨ckU_go hU hck, _, rfl⟩
            · have he' : (e != 0) = true := by simpa using he0
              refine XA_seq (XA_X [0] (steady_map _ _) rfl (by simp) (by simp) fun β1 w1 hR1 hA1 hK1 => ?_)
              have hFL : Kn ((ctx0 Tryd.prog w).after (ctx0 Tryd.prog w).ev (ctx0 Tryd.prog w).B w1 β1 [0]) (fun _ w => facs y k P E w ∧ least w) := fun w' hw' => ⟨facs_of (hK1 _ hF0 w' hw'), least_of (hK1 _ hL0 w' hw')⟩
              (repeat' ((first | with_reducible (first | apply cF_pure1 (by assumption) | apply cF_ev1 (by assumption)) | refine X_of _ ?_ | with_reducible (first | exact ⟨_, rfl⟩ | refine And.intro ?_ ?_ | intro _)) <;> try simp -implicitDefEqProofs (maxSteps := 1000000) (disch := first | exact dz1 | fail) only [vcR, vcT, simprocAttr, Ab.part, implies_true, forall_const, true_or, Option.isNone_some, Option.isNone_none, vcXPb, Tryd.f73, List.toList_toArray, arr4_zero, nat4_set1, nat4_setL, nat4_set0, seqA_n,seqA_r,seqA_x,blockA_n,blockA_r,blockA_x,loopA_n,loopA_r,loopA_x,retA_n,retA_r,he']))
              have hcs : ckS l m = e := by rw [ckS_short h40, ckU_stop h hU (by rw [hck]; exact he0), hck]
              exact ⟨b, _, hb, by rw [hcs], rfl, fun h => absurd (hcs ▸ h) he0⟩
      · have : i = m := by omega
        subst this
        refine XA_X [] (steady_map _ _) rfl (by simp) (by simp) fun β1 w1 hR1 hA1 hK1 => ?_
        (repeat' ((first | with_reducible (first | apply cF_pure1 (by assumption) | apply cF_ev1 (by assumption)) | refine X_of _ ?_ | with_reducible (first | exact ⟨_, rfl⟩ | refine And.intro ?_ ?_ | intro _)) <;> try simp -implicitDefEqProofs (maxSteps := 1000000) (disch := first | exact dz1 | fail) only [vcR, vcT, simprocAttr, Ab.part, implies_true, forall_const, true_or, Option.isNone_some, Option.isNone_none, vcXPb, Tryd.f73, List.toList_toArray, arr4_zero, nat4_set1, nat4_setL, nat4_set0, seqA_n,seqA_r,seqA_x,blockA_n,blockA_r,blockA_x,loopA_n,loopA_r,loopA_x,retA_n,retA_r]))
        clear hK1 hA1 hR1 w1 β1
        refine XA_X [] (steady_map _ _) rfl (by simp) (by simp) fun β1 w1 hR1 hA1 hK1 => ?_
        (repeat' ((first | with_reducible (first | apply cF_pure1 (by assumption) | apply cF_ev1 (by assumption)) | refine X_of _ ?_ | with_reducible (first | exact ⟨_, rfl⟩ | refine And.intro ?_ ?_ | intro _)) <;> try simp -implicitDefEqProofs (maxSteps := 1000000) (disch := first | exact dz1 | fail) only [vcR, vcT, simprocAttr, Ab.part, implies_true, forall_const, true_or, Option.isNone_some, Option.isNone_none, vcXPb, Tryd.f73, List.toList_toArray, arr4_zero, nat4_set1, nat4_setL, nat4_set0, seqA_n,seqA_r,seqA_x,blockA_n,blockA_r,blockA_x,loopA_n,loopA_r,loopA_x,retA_n,retA_r]))
        exact ⟨b, _, hb, by rw [ckS_short h40, hU], rfl, fun _ => rfl⟩
def CkV (l : Nat → Pf) (m : Nat) (v : TV) (A : World → Prop) : Prop :=
  ∃ b p, v = .tup [.s (.v (.map (some b))), .s (.v (.int .i64 (ckS l m)))] ∧ A = MapAt b p ∧ (ckS l m = 0 → p = knS l m)
theorem check_in {Γ : Ctx} {x : Option Addr} {m c : Nat} {l : Nat → Pf} (hl : PfOk l) (hm : m < 9223372036854775808) (hP : Γ.P = Tryd.prog) (h1 : Kn Γ fun _ w => prfs x m l w) (h2 : Kn Γ fun _ w => least w) {H : Heap} :
    ∀ β w, Rep Γ H β w → True → Calls Γ.P 73 ([TV.s (.v (.slice x m c))].map (TV.conc β)).toArray w fun e w' => ∃ v A', CkV l m v A' ∧ A' w' ∧ (∀ β', e = .returned (v.conc β')) ∧ Ext Γ.ev Γ.B w w' := by
  intro β w hR _
  have h := check_c x m c l hl hm w (h1 w hR.fr.to) (h2 w hR.fr.to)
  rw [hP]
  refine h.mono ?_
  rintro e w' ⟨v, H', A', β', ⟨b, p, hb, rfl, hA, hk⟩, hA', hR', he⟩
  refine ⟨_, A', ⟨b, p, rfl, hA, hk⟩, hA', fun β'' => ?_, Ext.of_below (below_of_rep0 hR')⟩
  rw [he β' (.refl _ _)]
  rfl
theorem proves_m (x : Option Addr) (m c : Nat) (l : Nat → Pf) (n : Nat) (hl : PfOk l) (hm : m < 9223372036854775808) (hn : n < 2 ^ 256) :
    PureM Tryd.prog 41 [.s (.v (.slice x m c)), .agg (nat4 n)] (fun w => prfs x m l w ∧ least w) (.s (.v (.int .i64 (pvS l m n)))) := by
  obtain ⟨r, hr⟩ : ∃ r, pvS l m n = r := ⟨_, rfl⟩
  rw [hr]
  refine pureM_ofA Tryd.func41 rfl (by simp only [List.length_cons, List.length_nil, List.map_cons, List.map_nil, List.nodup_cons, List.nodup_nil, List.mem_cons, Nat.reduceAdd, Nat.reduceEqDiff, or_false, not_false_eq_true, forall_eq_or_imp, forall_eq, or_self, Nat.reduceLT, Nat.reduceLeDiff, and_self, List.forall_mem_cons, List.not_mem_nil, false_implies, implies_true, and_true, true_and, vcOPb]) (by simp only [List.length_cons, List.length_nil, List.map_cons, List.map_nil, List.nodup_cons, List.nodup_nil, List.mem_cons, Nat.reduceAdd, Nat.reduceEqDiff, or_false, not_false_eq_true, forall_eq_or_imp, forall_eq, or_self, Nat.reduceLT, Nat.reduceLeDiff, and_self, List.forall_mem_cons, List.not_mem_nil, false_implies, implies_true, and_true, true_and, vcOPb]) fun w hpre => ?_
  simp only [List.length_cons, List.length_nil, Tryd.ntmps41, Nat.reduceAdd, Nat.reduceSub, List.replicate_succ, List.replicate_zero, List.cons_append, List.nil_append]
  have h1 := (prfs_kn (P0 := Tryd.prog) hpre.1).prfs0
  have h2 := (least_kn (P0 := Tryd.prog) hpre.2).least0
  clear hpre
  refine XA_seq (XA_X [] steady_true rfl (by simp) (by simp) fun β1 w1 hR1 hA1 hK1 => ?_)
  (repeat' ((first | with_reducible (first | apply XR_cons | apply XR_consG | apply XR_nil | apply cF_pure1 (by assumption) | apply cF_ev1 (by assumption)) | with_reducible (first | apply gRS (by with_unfolding_all rfl) | apply gR (by with_unfolding_all rfl) | apply gS (by with_unfolding_all rfl) | fail) | refine X_of _ ?_ | with_reducible (first | exact ⟨_, rfl⟩ | refine And.intro ?_ ?_ | intro _)) <;> try simp -implicitDefEqProofs (maxSteps := 1000000) (disch := first | exact dz1 | fail) only [vcR, vcT, simprocAttr, Ab.part, implies_true, forall_const, true_or, Option.isNone_some, Option.isNone_none, vcXPb, Tryd.f41, List.toList_toArray, arr4_zero, nat4_set1, nat4_setL, nat4_set0, seqA_n]))
  clear hR1 hA1 hK1 β1 w1
  refine XA_seq (XA_reg ?_)
  refine XAR_step [0] steady_true rfl (by simp) (by simp) fun β2 w2 hR2 hA2 hK2 => ?_
  try simp -implicitDefEqProofs (maxSteps := 1000000) (disch := first | exact dz1 | fail) only [vcR, vcT, simprocAttr, Ab.part, implies_true, forall_const, true_or, Option.isNone_some, Option.isNone_none, vcXPb, Tryd.f41, List.toList_toArray]
  clear hK2 hA2 hR2 w2 β2
  refine XAR_call rfl rfl (by kernel_rfl) (check_in hl hm rfl h1 h2) ?_
  rintro _ _ ⟨b, p, rfl, rfl, hk⟩
  try simp -implicitDefEqProofs (maxSteps := 1000000) (disch := first | exact dz1 | fail) only [vcR, vcT, simprocAttr, Ab.part, implies_true, forall_const, true_or, Option.isNone_some, Option.isNone_none, vcXPb, Tryd.f41, List.toList_toArray]
  iterate 5 (refine XAR_step [0] (steady_map _ _) rfl (by simp) (by simp) fun β2 w2 hR2 hA2 hK2 => ?_; try simp -implicitDefEqProofs (maxSteps := 1000000) (disch := first | exact dz1 | fail) only [vcR, vcT, simprocAttr, Ab.part, implies_true, forall_const, true_or, Option.isNone_some, Option.isNone_none, vcXPb, Tryd.f41, List.toList_toArray]; clear hK2 hA2 hR2 w2 β2)
  refine XAR_nil ?_
  try simp -implicitDefEqProofs (maxSteps := 1000000) (disch := first | exact dz1 | fail) only [vcR, vcT, simprocAttr, Ab.part, implies_true, forall_const, true_or, Option.isNone_some, Option.isNone_none, vcXPb, Tryd.f41, List.toList_toArray, seqA_n]
  refine XA_X [0] (steady_map _ _) rfl (by simp) (by simp) fun β1 w1 hR1 hA1 hK1 => ?_
  have hhas := (has_m b n p hn).ev (V := Evo.none)
  by_cases hc : ckS l m = 0
  · have hp := hk hc
    subst hp
    have hr' : (if knS l m n then 0 else 20) = r := by
      rw [← hr]
      unfold pvS
      rw [if_neg (show ¬ ckS l m ≠ 0 from fun h => h hc)]
    rw [hc]
    cases hz : knS l m n with
    | true =>
      rw [hz] at hhas hr'
      have hr'' : r = 0 := hr'.symm
      subst hr''
      (repeat' ((first | with_reducible (first | apply XR_cons | apply XR_consG | apply XR_nil | apply cF_pure1 (by assumption) | apply cF_ev1 (by assumption)) | with_reducible (first | apply gRS (by with_unfolding_all rfl) | apply gR (by with_unfolding_all rfl) | apply gS (by with_unfolding_all rfl) | fail) | refine X_of _ ?_ | with_reducible (first | exact ⟨_, rfl⟩ | refine And.intro ?_ ?_ | intro _)) <;> try simp -implicitDefEqProofs (maxSteps := 1000000) (disch := first | exact dz1 | fail) only [vcR, vcT, simprocAttr, Ab.part, implies_true, forall_const, true_or, Option.isNone_some, Option.isNone_none, vcXPb, Tryd.f41, List.toList_toArray, arr4_zero, nat4_set1, nat4_setL, nat4_set0, retA_n,retA_r,beq_self_eq_true]))
    | false =>
      rw [hz] at hhas hr'
      have hr'' : r = 20 := hr'.symm
      subst hr''
      (repeat' ((first | with_reducible (first | apply XR_cons | apply XR_consG | apply XR_nil | apply cF_pure1 (by assumption) | apply cF_ev1 (by assumption)) | with_reducible (first | apply gRS (by with_unfolding_all rfl) | apply gR (by with_unfolding_all rfl) | apply gS (by with_unfolding_all rfl) | fail) | refine X_of _ ?_ | with_reducible (first | exact ⟨_, rfl⟩ | refine And.intro ?_ ?_ | intro _)) <;> try simp -implicitDefEqProofs (maxSteps := 1000000) (disch := first | exact dz1 | fail) only [vcR, vcT, simprocAttr, Ab.part, implies_true, forall_const, true_or, Option.isNone_some, Option.isNone_none, vcXPb, Tryd.f41, List.toList_toArray, arr4_zero, nat4_set1, nat4_setL, nat4_set0, retA_n,retA_r,beq_self_eq_true]))
  · have hc' : (ckS l m == 0) = false := by rw [beq_eq_false_iff_ne]; exact hc
    have hr' : ckS l m = r := by
      rw [← hr]
      unfold pvS
      rw [if_pos hc]
    rw [hr'] at hc' ⊢
    (repeat' ((first | with_reducible (first | apply XR_cons | apply XR_consG | apply XR_nil | apply cF_pure1 (by assumption) | apply cF_ev1 (by assumption)) | with_reducible (first | apply gRS (by with_unfolding_all rfl) | apply gR (by with_unfolding_all rfl) | apply gS (by with_unfolding_all rfl) | fail) | refine X_of _ ?_ | with_reducible (first | exact ⟨_, rfl⟩ | refine And.intro ?_ ?_ | intro _)) <;> try simp -implicitDefEqProofs (maxSteps := 1000000) (disch := first | exact dz1 | fail) only [vcR, vcT, simprocAttr, Ab.part, implies_true, forall_const, true_or, Option.isNone_some, Option.isNone_none, vcXPb, Tryd.f41, List.toList_toArray, arr4_zero, nat4_set1, nat4_setL, nat4_set0, retA_n,retA_r,hc']))
def gv (w : World) : Prop := least w ∧ gnat 0 5 w ∧ gnat 1 2 w ∧ gnat 2 1 w
def grOK (P Q G : Nat) : Prop := OddM P ∧ OddM Q ∧ 5 ≤ P ∧ Q < P ∧ 2 ≤ G ∧ G < P ∧ G ^ Q % P = 1
theorem XA_of' {Γ : Ctx} {A : World → Prop} {c : Code} {T : List TV} {H : Heap} {Q : QA} (h : X Γ c T H fun e T H => Q e T H fun _ => True) : XA Γ A c T H Q := XA_of h fun _ _ _ h => h
theorem gv_one {P0 : Program} {w w1 : World} {H : Heap} {β : Nat → Nat} {L : List Nat} (h : gv w) (hR : Rep (ctx0 P0 w) H β w1) (hlt : ∀ i ∈ L, i < H.length) : Kn ((ctx0 P0 w).after (modEvo 108) w.heap.size w1 β L) oneK := kn_law hR hlt oneK_stays (gnat_at _ h.2.2.2)
theorem mem_of {P Q a : Nat} (hQ : 0 < Q) (ha : a < P) (h : a ^ Q % P = 1) : memB P Q a = true := by
  have h0 : a ≠ 0 := by
    rintro rfl
    rw [Nat.zero_pow hQ, Nat.zero_mod] at h
    cases h
  unfold memB
  rw [decide_eq_true h0, decide_eq_true ha, decide_eq_true h]
  rfl
theorem one_pow_mod {P n : Nat} (hP : 1 < P) : 1 ^ n % P = 1 := by rw [Nat.one_pow, Nat.mod_eq_of_lt hP]
theorem powQ {P Q a n : Nat} (hP : 1 < P) (h : a ^ Q % P = 1) : (a ^ n % P) ^ Q % P = 1 := by
  rw [← Nat.pow_mod, ← Nat.pow_mul, Nat.mul_comm, Nat.pow_mul, Nat.pow_mod, h, one_pow_mod hP]
theorem mem_pow {P Q a n : Nat} (hP : 1 < P) (hQ : 0 < Q) (h : a ^ Q % P = 1) : memB P Q (a ^ n % P) = true := mem_of hQ (Nat.mod_lt _ (by omega)) (powQ hP h)
theorem pow_modQ {P Q G x : Nat} (hP : 1 < P) (h : G ^ Q % P = 1) : G ^ (x % Q) % P = G ^ x % P := by
  have h1 : x = Q * (x / Q) + x % Q := (Nat.div_add_mod x Q).symm
  have h2 : G ^ x % P = G ^ (Q * (x / Q) + x % Q) % P := by rw [← h1]
  rw [h2, Nat.pow_add, Nat.mul_mod, Nat.pow_mul, Nat.pow_mod (G ^ Q), h, one_pow_mod hP, Nat.one_mul, Nat.mod_mod]
/-! Tryd# One power, one product -/
theorem all_two {P Q a b : Nat} : allM P Q 2 (two a b) = (memB P Q a && memB P Q b) := by simp [allM, List.range_succ, two]
theorem tmE {P Q a b : Nat} : muE P Q 2 2 (two a b) = if memB P Q a && memB P Q b then 0 else 22 := by rw [muE_ok (by decide), all_two]
theorem tmV {P Q a b : Nat} (h : memB P Q a = true) (h2 : memB P Q b = true) : muV P Q 2 2 (two a b) (two 1 1) = a * b % P := by
  unfold muV
  rw [tmE, h, h2]
  show 1 * (a ^ 1 % P) % P * (b ^ 1 % P) % P = _
  rw [Nat.one_mul, Nat.mod_mod, Nat.pow_one, Nat.pow_one, ← Nat.mul_mod]
theorem tmE1 {P Q a b : Nat} (h : memB P Q a = true) (h2 : memB P Q b = true) : muE P Q 2 2 (two a b) = 0 := by rw [tmE, h, h2]; rfl
/-! Tryd# GroupSums -/
/-! Tryd# GroupBack -/
/-! Tryd# GroupTurned -/
def prdN (a b : Nat → Nat) : Nat → Nat
  | 0 => 1
  | n + 1 => prdN a b n * a n ^ b n
theorem mulS_prd {P : Nat} (hP : 1 < P) (a b : Nat → Nat) : ∀ n, mulS P a b n = prdN a b n % P
  | 0 => (Nat.mod_eq_of_lt hP).symm
  | n + 1 => by
    show mulS P a b n * (a n ^ b n % P) % P = prdN a b n * a n ^ b n % P
    rw [mulS_prd hP a b n, ← Nat.mul_mod]
theorem prdN_congr {a b a' b' : Nat → Nat} : ∀ {n}, (∀ i, i < n → a i = a' i ∧ b i = b' i) → prdN a b n = prdN a' b' n
  | 0, _ => rfl
  | n + 1, h => by
    show prdN a b n * a n ^ b n = prdN a' b' n * a' n ^ b' n
    rw [prdN_congr fun i hi => h i (by omega), (h n (by omega)).1, (h n (by omega)).2]
theorem muS_ok {P Q n : Nat} {a : Nat → Nat} (hn : n ≤ 40) (h : allM P Q n a = true) : muE P Q n n a = 0 := by rw [muE_ok (by omega), h]; rfl
theorem muV_ok {P Q n : Nat} {a b : Nat → Nat} (hn : n ≤ 40) (h : allM P Q n a = true) : muV P Q n n a b = mulS P a b n := by unfold muV; rw [muS_ok hn h]; rfl
/-! Tryd# GroupFew -/
def maskP (P G : Nat) : Nat → Nat → Nat → Nat
  | 0, _, m => m
  | n + 1, x, m => maskP P G n (x * G % P) (m ||| (1 <<< x))
def allUp (f : Nat → Bool) : Nat → Bool
  | 0 => true
  | n + 1 => allUp f n && f n
theorem allUp_iff {f : Nat → Bool} : ∀ {n}, allUp f n = true → ∀ i, i < n → f i = true
  | 0, _, i, hi => absurd hi (Nat.not_lt_zero i)
  | n + 1, h, i, hi => by
    obtain ⟨h1, h2⟩ := Bool.and_eq_true_iff.1 h
    by_cases h3 : i < n
    · exact allUp_iff h1 i h3
    · have : i = n := by omega
      subst this
      exact h2
def fewB (P Q G : Nat) : Bool := allUp (fun a => memB P Q a == (maskP P G Q (1 % P) 0).testBit a) P && allUp (fun i => i == 0 || decide (G ^ i % P ≠ 1)) Q
theorem few_inj1 {P Q G : Nat} (hP : 1 < P) (hg : G ^ Q % P = 1) (h : fewB P Q G = true) {i j : Nat} (hij : i ≤ j) (hj : j < Q) (he : G ^ i % P = G ^ j % P) : i = j := by
  obtain ⟨h1, h2⟩ := Bool.and_eq_true_iff.1 h
  have h3 : G ^ (j - i) % P = 1 := by
    have h4 : G ^ (Q - i + j) % P = G ^ (j - i) % P := by
      rw [show Q - i + j = Q + (j - i) by omega, Nat.pow_add, Nat.mul_mod, hg, Nat.one_mul, Nat.mod_mod]
    rw [← h4, Nat.pow_add, Nat.mul_mod, ← he, ← Nat.mul_mod, ← Nat.pow_add, show Q - i + i = Q by omega, hg]
  have h5 := allUp_iff h2 (j - i) (by omega)
  rcases Bool.or_eq_true_iff.1 h5 with h6 | h6
  · have := beq_iff_eq.1 h6
    omega
  · exact absurd h3 (of_decide_eq_true h6)
theorem few_inj {P Q G : Nat} (hP : 1 < P) (hg : G ^ Q % P = 1) (h : fewB P Q G = true) {i j : Nat} (hi : i < Q) (hj : j < Q) : decide (G ^ i % P = G ^ j % P) = decide (i = j) := by
  by_cases hij : i = j
  · rw [decide_eq_true hij, hij, decide_eq_true rfl]
  · rw [decide_eq_false hij, decide_eq_false fun he => hij ?_]
    rcases Nat.le_total i j with h1 | h1
    · exact few_inj1 hP hg h h1 hj he
    · exact (few_inj1 hP hg h h1 hi he.symm).symm
/-! Tryd# The four -/
theorem sm_few (z : Int) : fewB (smP z) (smQ z) 4 = true := by
  unfold smP smQ
  split
  · kernel_rfl
  · split
    · kernel_rfl
    · split <;> kernel_rfl
structure SmOk (P Q : Nat) : Prop where
  gr : grOK P Q 4
  few : fewB P Q 4 = true
  lt : Q < 18446744073709551616
theorem sm_ok (z : Int) : SmOk (smP z) (smQ z) := by
  refine ⟨?_, sm_few z, ?_⟩
  · unfold smP smQ
    split
    · exact ⟨⟨by decide, by decide, by decide⟩, ⟨by decide, by decide, by decide⟩, by decide, by decide, by decide, by decide, by kernel_rfl⟩
    · split
      · exact ⟨⟨by decide, by decide, by decide⟩, ⟨by decide, by decide, by decide⟩, by decide, by decide, by decide, by decide, by kernel_rfl⟩
      · split <;> exact ⟨⟨by decide, by decide, by decide⟩, ⟨by decide, by decide, by decide⟩, by decide, by decide, by decide, by decide, by kernel_rfl⟩
  · unfold smQ
    split
    · decide
    · split
      · decide
      · split <;> decide
theorem muV_lt2 {P : Nat} (h : OddM P) (Q n m : Nat) (a b : Nat → Nat) : muV P Q n m a b < 2 ^ 256 := by
  unfold muV
  split
  · exact mulS_lt h a b n
  · decide
def r2B (P Q G n : Nat) (l : Nat → Nat) (s : Int) (a : Nat) : Bool := decide (a < Q) && decide (G ^ a % P = muV P Q n n l (pwN Q (placeN s)))
def r2E (P Q G n : Nat) (l : Nat → Nat) (s : Int) (a : Nat) : Int := if muE P Q n n l = 0 then (if r2B P Q G n l s a then 0 else 40) else muE P Q n n l
def trH7n68x2 : Tr := (.cons 6 (.cons 7 (.cons 8 (.cons 9 (.cons 10 (.cons 11 (.cons 12 (.cons 13 (.cons 14 (.cons 15 (.cons 16 .nil .nil) .nil) .nil) .nil) (.cons 13 (.cons 12 (.cons 14 (.cons 15 (.cons 16 .nil .nil) .nil) .nil) .nil) .nil)) (.cons 13 (.cons 11 (.cons 12 (.cons 14 (.cons 15 (.cons 16 .nil .nil) .nil) .nil) .nil) .nil) .nil)) (.cons 13 (.cons 10 (.cons 11 (.cons 12 (.cons 14 (.cons 15 (.cons 16 .nil .nil) .nil) .nil) .nil) .nil) .nil) .nil)) (.cons 10 (.cons 9 (.cons 11 (.cons 12 (.cons 13 (.cons 14 (.cons 15 (.cons 16 .nil .nil) .nil) .nil) .nil) (.cons 13 (.cons 12 (.cons 14 (.cons 15 (.cons 16 .nil .nil) .nil) .nil) .nil) .nil)) (.cons 13 (.cons 11 (.cons 12 (.cons 14 (.cons 15 (.cons 16 .nil .nil) .nil) .nil) .nil) .nil) .nil)) (.cons 11 (.cons 9 (.cons 12 (.cons 13 (.cons 14 (.cons 15 (.cons 16 .nil .nil) .nil) .nil) .nil) (.cons 13 (.cons 12 (.cons 14 (.cons 15 (.cons 16 .nil .nil) .nil) .nil) .nil) .nil)) (.cons 13 (.cons 9 (.cons 12 (.cons 14 (.cons 15 (.cons 16 .nil .nil) .nil) .nil) .nil) .nil) .nil)) (.cons 13 (.cons 9 (.cons 11 (.cons 12 (.cons 14 (.cons 15 (.cons 16 .nil .nil) .nil) .nil) .nil) .nil) (.cons 11 (.cons 9 (.cons 12 (.cons 14 (.cons 15 (.cons 16 .nil .nil) .nil) .nil) .nil) .nil) .nil)) .nil))) (.cons 13 (.cons 9 (.cons 10 (.cons 11 (.cons 12 (.cons 14 (.cons 15 (.cons 16 .nil .nil) .nil) .nil) .nil) .nil) .nil) (.cons 10 (.cons 9 (.cons 11 (.cons 12 (.cons 14 (.cons 15 (.cons 16 .nil .nil) .nil) .nil) .nil) .nil) (.cons 11 (.cons 9 (.cons 12 (.cons 14 (.cons 15 (.cons 16 .nil .nil) .nil) .nil) .nil) .nil) .nil)) .nil)) .nil))) .nil) .nil) .nil)
def trH7n68x1 : Tr := (.cons 5 (.cons 6 (.cons 7 (.cons 8 (.cons 9 (.cons 10 (.cons 11 (.cons 12 (.cons 13 (.cons 14 (.cons 15 .nil .nil) .nil) .nil) (.cons 13 (.cons 12 (.cons 14 (.cons 15 .nil .nil) .nil) (.cons 14 (.cons 12 (.cons 15 .nil .nil) .nil) .nil)) .nil)) (.cons 12 (.cons 11 (.cons 13 (.cons 14 (.cons 15 .nil .nil) .nil) .nil) (.cons 13 (.cons 11 (.cons 14 (.cons 15 .nil .nil) .nil) .nil) .nil)) (.cons 13 (.cons 11 (.cons 12 (.cons 14 (.cons 15 .nil .nil) .nil) (.cons 14 (.cons 12 (.cons 15 .nil .nil) .nil) .nil)) (.cons 12 (.cons 11 (.cons 14 (.cons 15 .nil .nil) .nil) .nil) .nil)) .nil))) (.cons 13 (.cons 10 (.cons 11 (.cons 12 (.cons 14 (.cons 15 .nil .nil) .nil) (.cons 14 (.cons 12 (.cons 15 .nil .nil) .nil) .nil)) (.cons 12 (.cons 11 (.cons 14 (.cons 15 .nil .nil) .nil) .nil) .nil)) .nil) .nil)) (.cons 13 (.cons 9 (.cons 10 (.cons 11 (.cons 12 (.cons 14 (.cons 15 .nil .nil) .nil) (.cons 14 (.cons 12 (.cons 15 .nil .nil) .nil) .nil)) (.cons 12 (.cons 11 (.cons 14 (.cons 15 .nil .nil) .nil) .nil) .nil)) .nil) .nil) .nil)) (.cons 13 (.cons 8 (.cons 9 (.cons 10 (.cons 11 (.cons 12 (.cons 14 (.cons 15 .nil .nil) .nil) (.cons 14 (.cons 12 (.cons 15 .nil .nil) .nil) .nil)) (.cons 12 (.cons 11 (.cons 14 (.cons 15 .nil .nil) .nil) .nil) .nil)) .nil) .nil) .nil) .nil)) (.cons 13 (.cons 7 (.cons 8 (.cons 9 (.cons 10 (.cons 11 (.cons 12 (.cons 14 (.cons 15 .nil .nil) .nil) (.cons 14 (.cons 12 (.cons 15 .nil .nil) .nil) .nil)) (.cons 12 (.cons 11 (.cons 14 (.cons 15 .nil .nil) .nil) .nil) .nil)) .nil) .nil) .nil) .nil) .nil)) (.cons 13 (.cons 6 (.cons 7 (.cons 8 (.cons 9 (.cons 10 (.cons 11 (.cons 12 (.cons 14 (.cons 15 .nil .nil) .nil) (.cons 14 (.cons 12 (.cons 15 .nil .nil) .nil) .nil)) (.cons 12 (.cons 11 (.cons 14 (.cons 15 .nil .nil) .nil) .nil) .nil)) .nil) .nil) .nil) .nil) .nil) .nil)) (.cons 6 (.cons 5 (.cons 7 (.cons 8 (.cons 9 (.cons 10 (.cons 11 (.cons 12 (.cons 13 (.cons 14 (.cons 15 .nil .nil) .nil) .nil) (.cons 13 (.cons 12 (.cons 14 (.cons 15 .nil .nil) .nil) (.cons 14 (.cons 12 (.cons 15 .nil .nil) .nil) .nil)) .nil)) (.cons 12 (.cons 11 (.cons 13 (.cons 14 (.cons 15 .nil .nil) .nil) .nil) (.cons 13 (.cons 11 (.cons 14 (.cons 15 .nil .nil) .nil) .nil) .nil)) (.cons 13 (.cons 11 (.cons 12 (.cons 14 (.cons 15 .nil .nil) .nil) (.cons 14 (.cons 12 (.cons 15 .nil .nil) .nil) .nil)) (.cons 12 (.cons 11 (.cons 14 (.cons 15 .nil .nil) .nil) .nil) .nil)) .nil))) (.cons 13 (.cons 10 (.cons 11 (.cons 12 (.cons 14 (.cons 15 .nil .nil) .nil) (.cons 14 (.cons 12 (.cons 15 .nil .nil) .nil) .nil)) (.cons 12 (.cons 11 (.cons 14 (.cons 15 .nil .nil) .nil) .nil) .nil)) .nil) .nil)) (.cons 13 (.cons 9 (.cons 10 (.cons 11 (.cons 12 (.cons 14 (.cons 15 .nil .nil) .nil) (.cons 14 (.cons 12 (.cons 15 .nil .nil) .nil) .nil)) (.cons 12 (.cons 11 (.cons 14 (.cons 15 .nil .nil) .nil) .nil) .nil)) .nil) .nil) .nil)) (.cons 13 (.cons 8 (.cons 9 (.cons 10 (.cons 11 (.cons 12 (.cons 14 (.cons 15 .nil .nil) .nil) (.cons 14 (.cons 12 (.cons 15 .nil .nil) .nil) .nil)) (.cons 12 (.cons 11 (.cons 14 (.cons 15 .nil .nil) .nil) .nil) .nil)) .nil) .nil) .nil) .nil)) (.cons 13 (.cons 7 (.cons 8 (.cons 9 (.cons 10 (.cons 11 (.cons 12 (.cons 14 (.cons 15 .nil .nil) .nil) (.cons 14 (.cons 12 (.cons 15 .nil .nil) .nil) .nil)) (.cons 12 (.cons 11 (.cons 14 (.cons 15 .nil .nil) .nil) .nil) .nil)) .nil) .nil) .nil) .nil) .nil)) (.cons 7 (.cons 5 (.cons 8 (.cons 9 (.cons 10 (.cons 11 (.cons 12 (.cons 13 (.cons 14 (.cons 15 .nil .nil) .nil) .nil) (.cons 13 (.cons 12 (.cons 14 (.cons 15 .nil .nil) .nil) (.cons 14 (.cons 12 (.cons 15 .nil .nil) .nil) .nil)) .nil)) (.cons 12 (.cons 11 (.cons 13 (.cons 14 (.cons 15 .nil .nil) .nil) .nil) (.cons 13 (.cons 11 (.cons 14 (.cons 15 .nil .nil) .nil) .nil) .nil)) (.cons 13 (.cons 11 (.cons 12 (.cons 14 (.cons 15 .nil .nil) .nil) (.cons 14 (.cons 12 (.cons 15 .nil .nil) .nil) .nil)) (.cons 12 (.cons 11 (.cons 14 (.cons 15 .nil .nil) .nil) .nil) .nil)) .nil))) (.cons 13 (.cons 10 (.cons 11 (.cons 12 (.cons 14 (.cons 15 .nil .nil) .nil) (.cons 14 (.cons 12 (.cons 15 .nil .nil) .nil) .nil)) (.cons 12 (.cons 11 (.cons 14 (.cons 15 .nil .nil) .nil) .nil) .nil)) .nil) .nil)) (.cons 13 (.cons 9 (.cons 10 (.cons 11 (.cons 12 (.cons 14 (.cons 15 .nil .nil) .nil) (.cons 14 (.cons 12 (.cons 15 .nil .nil) .nil) .nil)) (.cons 12 (.cons 11 (.cons 14 (.cons 15 .nil .nil) .nil) .nil) .nil)) .nil) .nil) .nil)) (.cons 13 (.cons 8 (.cons 9 (.cons 10 (.cons 11 (.cons 12 (.cons 14 (.cons 15 .nil .nil) .nil) (.cons 14 (.cons 12 (.cons 15 .nil .nil) .nil) .nil)) (.cons 12 (.cons 11 (.cons 14 (.cons 15 .nil .nil) .nil) .nil) .nil)) .nil) .nil) .nil) .nil)) (.cons 13 (.cons 5 (.cons 8 (.cons 9 (.cons 10 (.cons 11 (.cons 12 (.cons 14 (.cons 15 .nil .nil) .nil) .nil) .nil) .nil) .nil) .nil) .nil) .nil)) .nil)) .nil))
theorem right2_e (jg jc jp k kx kq P Q G : Nat) (x : Option Addr) (n c : Nat) (l : Nat → Nat) (s : Int) (a : Nat) (hP2 : P < 2 ^ 256) (hQ2 : Q < 2 ^ 256) (hG2 : G < 2 ^ 256) (hl : ∀ i, l i < 2 ^ 256) (ha : a < 2 ^ 256) (hn1 : 1 ≤ n) (hn : n ≤ 20) (hs0 : 0 ≤ s) (hs1 : s < 40) :
    EvC (modEvo 108) Tryd.prog 68 [.s (.v (.pointer (some ⟨jg, 0, none⟩))), .s (.v (.pointer (some ⟨jc, 0, none⟩))), .s (.v (.pointer (some ⟨jp, 0, none⟩)))] (fun B w => (GK k kx kq P Q G B w ∧ oneK B w) ∧ boxesAt jg jc jp k x n c s a B w ∧ natsAt (modEvo 108) x n l B w)
      (.s (.v (.int .i64 (r2E P Q G n l s a)))) := by
  (refine evC_of Tryd.func68 rfl (by simp only [List.length_cons, List.length_nil, List.map_cons, List.map_nil, List.nodup_cons, List.nodup_nil, List.mem_cons, Nat.reduceAdd, Nat.reduceEqDiff, or_false, not_false_eq_true, forall_eq_or_imp, forall_eq, or_self, Nat.reduceLT, Nat.reduceLeDiff, and_self, List.forall_mem_cons, List.not_mem_nil, false_implies, implies_true, and_true, true_and, vcOHb]) (by simp only [List.length_cons, List.length_nil, List.map_cons, List.map_nil, List.nodup_cons, List.nodup_nil, List.mem_cons, Nat.reduceAdd, Nat.reduceEqDiff, or_false, not_false_eq_true, forall_eq_or_imp, forall_eq, or_self, Nat.reduceLT, Nat.reduceLeDiff, and_self, List.forall_mem_cons, List.not_mem_nil, false_implies, implies_true, and_true, true_and, vcOHb]) fun B w hpre => ?_; simp only [List.length_cons, List.length_nil, Tryd.ntmps68, Nat.reduceAdd, Nat.reduceSub, List.replicate_succ, List.replicate_zero, List.cons_append, List.nil_append])
  have h0 := Kn.entry (P := Tryd.prog) (((isGrp_stays 108 k kx kq P Q G).and oneK_stays).and ((boxesAt_stays jg jc jp k x n c s a).and (natsAt_stays _ x n l))) hpre
  have hG := h0.left.left
  have hO := h0.left.right
  have hb := h0.right.left
  have hN := h0.right.right
  obtain ⟨hOP, hOQ⟩ := hG.gOdd
  have g1 : ∀ {K : TV → HE → Prop} {q : Nat}, xext (ctxE Tryd.prog (modEvo 108) w B) (some false) q ⟨jg, 0, none⟩ K = K (.s (.v (.pointer (some ⟨k, 0, none⟩)))) .none := fun {K} => Kn.bxg hb
  have g2 : ∀ {K : TV → HE → Prop} {q : Nat}, xext (ctxE Tryd.prog (modEvo 108) w B) (some false) q ⟨jc, 0, none⟩ K = K (.s (.v (.slice x n c))) .none := fun {K} => Kn.bxc hb
  have g3 : ∀ {K : TV → HE → Prop} {q : Nat}, xext (ctxE Tryd.prog (modEvo 108) w B) (some false) q ⟨jp, 0, none⟩ K = K (.s (.v (.int .i64 s))) .none := fun {K} => Kn.bxs hb
  have g4 : ∀ {K : TV → HE → Prop}, xext (ctxE Tryd.prog (modEvo 108) w B) (some true) 4 ⟨jp, 1, none⟩ K = K (.agg (nat4 a)) .none := fun {K} => Kn.bxa hb
  clear hpre h0 hb
  have hp2 : placeN s < 2 ^ 256 := by unfold placeN; omega
  have e1 := place_c s (by omega) (by omega)
  have e2 := powers_n k kx kq P Q G (placeN s) n hp2 hn1 (by omega)
  have e3 := fun y d => gMulti_e x y n n c d l (pwN Q (placeN s)) k kx kq P Q G hP2 hQ2 hl (pwN_lt hOQ) (by omega) (by omega)
  have e4 := below_e k kx kq P Q G a ha
  have e5 := gBase_e k kx kq P Q G a hG2 ha
  have b1 := muV_lt2 hOP Q n n l (pwN Q (placeN s))
  have b2 : G ^ a % P < 2 ^ 256 := hOP.mod_lt
  have hE : r2E P Q G n l s a = if muE P Q n n l = 0 then (if decide (a < Q) && decide (G ^ a % P = muV P Q n n l (pwN Q (placeN s))) then 0 else 40) else muE P Q n n l := rfl
  obtain ⟨r, hr⟩ : ∃ r, r2E P Q G n l s a = r := ⟨_, rfl⟩
  rw [hr] at hE ⊢
  clear hr
  obtain ⟨v, hv⟩ : ∃ v, muV P Q n n l (pwN Q (placeN s)) = v := ⟨_, rfl⟩
  obtain ⟨e, he⟩ : ∃ e, muE P Q n n l = e := ⟨_, rfl⟩
  obtain ⟨u, hu⟩ : ∃ u, G ^ a % P = u := ⟨_, rfl⟩
  obtain ⟨f, hf⟩ : ∃ f, pwN Q (placeN s) = f := ⟨_, rfl⟩
  obtain ⟨p, hp⟩ : ∃ p, placeN s = p := ⟨_, rfl⟩
  simp only [hv, he] at e3 b1 hE
  simp only [hf] at e3
  rw [hu] at e5 b2 hE
  rw [hf] at e2
  rw [hp] at e1 e2 hp2
  clear hv he hu hf hp hl hOP hOQ
  have hn0 : n ≠ 0 := by omega
  (repeat' ((first | with_reducible (first | apply XR_cons | apply XR_consG | apply XR_nil | apply XM_cons | apply XM_consG | apply XM_nil | apply cF_pure3 (by assumption) | apply cM_pure3 (by assumption) | apply cF_ev3 (by assumption) | apply cM_ev3 (by assumption)) | (with_reducible apply X_drawM (id := 2) 6 [] trH7n68x2; (next => (kernel_rfl)); (next => (kernel_rfl))) | refine X_of _ ?_ | with_reducible (first | exact ⟨_, rfl⟩ | refine And.intro ?_ ?_ | intro _)) <;> try simp -implicitDefEqProofs (maxSteps := 1000000) (disch := first | exact dz3 | fail) only [vcR, vcT, simprocAttr, Ab.part, implies_true, forall_const, true_or, Option.isNone_some, Option.isNone_none, vcXHb, Tryd.f68, List.toList_toArray, arr4_zero, nat4_set1, nat4_setL, nat4_set0, g1,g2,g3,addr_add, trH7n68x2]))
  (refine X_drawC2 8 [] (.cons 8 (.cons 9 (.cons 10 (.cons 11 (.cons 12 (.cons 13 (.cons 14 (.cons 15 .nil .nil) .nil) .nil) (.cons 13 (.cons 12 (.cons 14 (.cons 15 .nil .nil) .nil) (.cons 14 (.cons 12 (.cons 15 .nil .nil) .nil) .nil)) .nil)) (.cons 12 (.cons 11 (.cons 13 (.cons 14 (.cons 15 .nil .nil) .nil) .nil) (.cons 13 (.cons 11 (.cons 14 (.cons 15 .nil .nil) .nil) .nil) .nil)) (.cons 13 (.cons 11 (.cons 12 (.cons 14 (.cons 15 .nil .nil) .nil) (.cons 14 (.cons 12 (.cons 15 .nil .nil) .nil) .nil)) (.cons 12 (.cons 11 (.cons 14 (.cons 15 .nil .nil) .nil) .nil) .nil)) .nil))) (.cons 13 (.cons 10 (.cons 11 (.cons 12 (.cons 14 (.cons 15 .nil .nil) .nil) (.cons 14 (.cons 12 (.cons 15 .nil .nil) .nil) .nil)) (.cons 12 (.cons 11 (.cons 14 (.cons 15 .nil .nil) .nil) .nil) .nil)) .nil) .nil)) (.cons 13 (.cons 9 (.cons 10 (.cons 11 (.cons 12 (.cons 14 (.cons 15 .nil .nil) .nil) (.cons 14 (.cons 12 (.cons 15 .nil .nil) .nil) .nil)) (.cons 12 (.cons 11 (.cons 14 (.cons 15 .nil .nil) .nil) .nil) .nil)) .nil) .nil) .nil)) (.cons 13 (.cons 8 (.cons 9 (.cons 10 (.cons 11 (.cons 12 (.cons 14 (.cons 15 .nil .nil) .nil) (.cons 14 (.cons 12 (.cons 15 .nil .nil) .nil) .nil)) (.cons 12 (.cons 11 (.cons 14 (.cons 15 .nil .nil) .nil) .nil) .nil)) .nil) .nil) .nil) .nil)) (by kernel_rfl) (by kernel_rfl) ?_; simp only [List.take_succ_cons, List.take_zero])
  (repeat ((first | with_reducible refine XW_slice ?_ | with_reducible refine XW_cons ?_ | with_reducible refine XW_consG ?_ | with_reducible refine XW_nil ?_); try simp -implicitDefEqProofs (maxSteps := 1000000) (disch := first | exact dz3 | fail) only [vcR, vcT, simprocAttr, Ab.part, implies_true, forall_const, true_or, Option.isNone_some, Option.isNone_none, vcXHb, Tryd.f68, List.toList_toArray, g1,g2,g3,addr_add]))
  refine cM_pure3 e1 ?_
  (repeat ((first | with_reducible refine XW_slice ?_ | with_reducible refine XW_cons ?_ | with_reducible refine XW_consG ?_ | with_reducible refine XW_nil ?_); try simp -implicitDefEqProofs (maxSteps := 1000000) (disch := first | exact dz3 | fail) only [vcR, vcT, simprocAttr, Ab.part, implies_true, forall_const, true_or, Option.isNone_some, Option.isNone_none, vcXHb, Tryd.f68, List.toList_toArray, g1,g2,g3,addr_add]))
  have hp1 : ∀ {H : Heap} {K : TV → Heap → Prop}, (∀ (c1 : Nat) (sp1 : List Value), n ≤ c1 → sp1.length = (c1 - n) * 4 → K (.s (.sl H.length 0 n c1)) (H ++ [⟨24, nats n f ++ sp1.map SV.v⟩])) →
      xcallF (ctxE Tryd.prog (modEvo 108) w B) H 69 [.s (.v (.pointer (some ⟨k, 0, none⟩))), .agg (nat4 p), .s (.v (.int .i64 (n : Int)))] K := by
    intro H K hk
    refine xcall_evn (by kernel_rfl) (fun β w' hR => ⟨_, e2, hG w' hR.fr.to⟩) ?_
    rintro _ _ ⟨c1, sp1, hc1, rfl, rfl⟩
    have h2 := hk c1 sp1 (hc1 hn0).1 (hc1 hn0).2
    rw [ren_rowS, rowS_s hn0, rowH_s hn0, Nat.zero_add]
    exact h2
  have hm1 : ∀ {H : Heap} {K : TV → Heap → Prop} {j c1 : Nat} {sp1 : List Value}, H[j]? = some ⟨24, nats n f ++ sp1.map SV.v⟩ → K (.tup [.agg (nat4 v), .s (.v (.int .i64 e))]) H →
      xcallF (ctxE Tryd.prog (modEvo 108) w B) H 27 [.s (.v (.pointer (some ⟨k, 0, none⟩))), .s (.v (.slice x n c)), .s (.sl j 0 n c1)] K := by
    intro H K j c1 sp1 hj hk
    exact yF_evz (fun β w' hR => ⟨_, e3 (some ⟨β j, 0, none⟩) c1, ⟨hN w' hR.fr.to, natsAt_own hR hj (by decide)⟩, hG w' hR.fr.to, hO w' hR.fr.to⟩) rfl rfl (by kernel_rfl) hk
  repeat' (first
    | ((with_reducible apply xTrC_cons); rfl)
    | ((with_reducible refine hp1 ?_); intro c1 sp1 hc1 hs1)
    | ((with_reducible apply hm1); rfl)
    | simp -implicitDefEqProofs (maxSteps := 1000000) (disch := first | exact dz3 | fail) only [vcR, vcT, simprocAttr, Ab.part, implies_true, forall_const, true_or, Option.isNone_some, Option.isNone_none, vcXHb, Tryd.f68, List.toList_toArray, xTrC_end,xTrC_last,g1,g2,g3,addr_add])
  clear hp1 hm1 e1 e2 e3
  all_goals
    by_cases e0 : e = 0
    · subst e0
      rw [if_pos rfl] at hE
      cases hq : decide (a < Q) with
      | false =>
        rw [hq] at e4 hE
        rw [Bool.false_and, if_neg (by decide)] at hE
        subst hE
        (repeat' ((first | with_reducible (first | apply XQ_cons | apply XQ_consG | apply XQ_nil | apply XR_cons | apply XR_consG | apply XR_nil | apply XM_cons | apply XM_consG | apply XM_nil | apply cF_pure3 (by assumption) | apply cV_pure3 (by assumption) | apply cM_pure3 (by assumption) | apply cF_ev3 (by assumption) | apply cV_ev3 (by assumption) | apply cM_ev3 (by assumption)) | (with_reducible apply X_drawM (id := 1) 5 [] trH7n68x1; (next => (kernel_rfl)); (next => (kernel_rfl))) | (with_reducible apply X_drawC (id := 2) 17; (next => (kernel_rfl)); (next => (kernel_rfl))) | refine X_of _ ?_ | with_reducible (first | exact ⟨_, rfl⟩ | refine And.intro ?_ ?_ | intro _)) <;> try simp -implicitDefEqProofs (maxSteps := 1000000) (disch := first | exact dz3 | fail) only [vcR, vcT, simprocAttr, Ab.part, implies_true, forall_const, true_or, Option.isNone_some, Option.isNone_none, vcXHb, Tryd.f68, List.toList_toArray, arr4_zero, nat4_set1, nat4_setL, nat4_set0, g1,g2,g3,g4,addr_add,bne_self_eq_false,beq_self_eq_true, trH7n68x1]))
      | true =>
        rw [hq] at e4 hE
        rw [Bool.true_and] at hE
        by_cases huv : u = v
        · subst huv
          rw [decide_eq_true rfl, if_pos rfl] at hE
          subst hE
          (repeat' ((first | with_reducible (first | apply XQ_cons | apply XQ_consG | apply XQ_nil | apply XR_cons | apply XR_consG | apply XR_nil | apply XM_cons | apply XM_consG | apply XM_nil | apply cF_pure3 (by assumption) | apply cV_pure3 (by assumption) | apply cM_pure3 (by assumption) | apply cF_ev3 (by assumption) | apply cV_ev3 (by assumption) | apply cM_ev3 (by assumption)) | (with_reducible apply X_drawM (id := 1) 5 [] trH7n68x1; (next => (kernel_rfl)); (next => (kernel_rfl))) | (with_reducible apply X_drawC (id := 2) 17; (next => (kernel_rfl)); (next => (kernel_rfl))) | refine X_of _ ?_ | with_reducible (first | exact ⟨_, rfl⟩ | refine And.intro ?_ ?_ | intro _)) <;> try simp -implicitDefEqProofs (maxSteps := 1000000) (disch := first | exact dz3 | fail) only [vcR, vcT, simprocAttr, Ab.part, implies_true, forall_const, true_or, Option.isNone_some, Option.isNone_none, vcXHb, Tryd.f68, List.toList_toArray, arr4_zero, nat4_set1, nat4_setL, nat4_set0, g1,g2,g3,g4,addr_add,bne_self_eq_false,beq_self_eq_true,litsEq_self, trH7n68x1]))
        · rw [decide_eq_false huv, if_neg (by decide)] at hE
          subst hE
          have hd : decide (u = v) = false := decide_eq_false huv
          (repeat' ((first | with_reducible (first | apply XQ_cons | apply XQ_consG | apply XQ_nil | apply XR_cons | apply XR_consG | apply XR_nil | apply XM_cons | apply XM_consG | apply XM_nil | apply cF_pure3 (by assumption) | apply cV_pure3 (by assumption) | apply cM_pure3 (by assumption) | apply cF_ev3 (by assumption) | apply cV_ev3 (by assumption) | apply cM_ev3 (by assumption)) | (with_reducible apply X_drawM (id := 1) 5 [] trH7n68x1; (next => (kernel_rfl)); (next => (kernel_rfl))) | (with_reducible apply X_drawC (id := 2) 17; (next => (kernel_rfl)); (next => (kernel_rfl))) | refine X_of _ ?_ | with_reducible (first | exact ⟨_, rfl⟩ | refine And.intro ?_ ?_ | intro _)) <;> try simp -implicitDefEqProofs (maxSteps := 1000000) (disch := first | exact dz3 | fail) only [vcR, vcT, simprocAttr, Ab.part, implies_true, forall_const, true_or, Option.isNone_some, Option.isNone_none, vcXHb, Tryd.f68, List.toList_toArray, arr4_zero, nat4_set1, nat4_setL, nat4_set0, g1,g2,g3,g4,addr_add,bne_self_eq_false,beq_self_eq_true,hd, trH7n68x1]))
    · rw [if_neg e0] at hE
      subst hE
      have hd : (r == 0) = false := beq_false_of_ne e0
      (repeat' ((first | with_reducible (first | apply XQ_cons | apply XQ_consG | apply XQ_nil | apply XR_cons | apply XR_consG | apply XR_nil | apply XM_cons | apply XM_consG | apply XM_nil | apply cF_pure3 (by assumption) | apply cV_pure3 (by assumption) | apply cM_pure3 (by assumption) | apply cF_ev3 (by assumption) | apply cV_ev3 (by assumption) | apply cM_ev3 (by assumption)) | (with_reducible apply X_drawM (id := 1) 5 [] trH7n68x1; (next => (kernel_rfl)); (next => (kernel_rfl))) | (with_reducible apply X_drawC (id := 2) 17; (next => (kernel_rfl)); (next => (kernel_rfl))) | refine X_of _ ?_ | with_reducible (first | exact ⟨_, rfl⟩ | refine And.intro ?_ ?_ | intro _)) <;> try simp -implicitDefEqProofs (maxSteps := 1000000) (disch := first | exact dz3 | fail) only [vcR, vcT, simprocAttr, Ab.part, implies_true, forall_const, true_or, Option.isNone_some, Option.isNone_none, vcXHb, Tryd.f68, List.toList_toArray, arr4_zero, nat4_set1, nat4_setL, nat4_set0, g1,g2,g3,g4,addr_add,hd, trH7n68x1]))
def rightE (P Q G n : Nat) (l : Nat → Nat) (s : Int) (a : Nat) : Int := if r1B Q n s then r2E P Q G n l s a else 1
theorem right_e (k kx kq P Q G : Nat) (x : Option Addr) (n c : Nat) (l : Nat → Nat) (s : Int) (a : Nat) (hP2 : P < 2 ^ 256) (hQ2 : Q < 2 ^ 256) (hG2 : G < 2 ^ 256) (hl : ∀ i, l i < 2 ^ 256) (ha : a < 2 ^ 256) (hs1 : -9223372036854775808 ≤ s) (hs2 : s ≤ 9223372036854775807) :
    EvC (modEvo 108) Tryd.prog 36 [.s (.v (.pointer (some ⟨k, 0, none⟩))), .s (.v (.slice x n c)), .agg (pieceC s a)] (fun B w => (GK k kx kq P Q G B w ∧ oneK B w) ∧ natsAt (modEvo 108) x n l B w)
      (.s (.v (.int .i64 (rightE P Q G n l s a)))) := by
  refine evC_of Tryd.func36 rfl (by
    intro y hy
    simp only [List.mem_cons, List.not_mem_nil, or_false] at hy
    rcases hy with rfl | rfl | rfl
    · trivial
    · trivial
    · show ∀ z ∈ pieceC s a, z.ok 0
      rw [pieceC_okk]
      trivial) (by trivial) fun B w hpre => ?_
  simp only [List.length_cons, List.length_nil, Tryd.ntmps36, Nat.reduceAdd, Nat.reduceSub, List.replicate_succ, List.replicate_zero, List.cons_append, List.nil_append]
  have h0 := Kn.entry (P := Tryd.prog) (((isGrp_stays 108 k kx kq P Q G).and oneK_stays).and (natsAt_stays _ x n l)) hpre
  clear hpre
  (refine X_of _ ?_; simp -implicitDefEqProofs (maxSteps := 1000000) (disch := first | exact dz3 | fail) only [vcR, vcT, simprocAttr, Ab.part, implies_true, forall_const, true_or, Option.isNone_some, Option.isNone_none, vcXHb, Tryd.f36, List.toList_toArray])
  refine X_rebase (modEvo 108) B [] (by decide) (by simp) rfl (.inl ⟨rfl, rfl⟩) (fun _ h => h) (by simp) fun β1 w1 hR1 => ?_
  have h1 := h0.after (L := []) hR1 (by simp)
  have hb : Kn ((ctxE Tryd.prog (modEvo 108) w B).after (modEvo 108) B w1 β1 []) (boxesAt (β1 0) (β1 1) (β1 2) k x n c s a) := by
    have k1 := cellsAt_gone (n := 1) (V := modEvo 108) (B := B) (g := fun _ => .pointer (some ⟨k, 0, none⟩)) (L := []) (j := 0) hR1 rfl (by decide) (by simp) (by simp [modEvo]) fun i hi => by
      rcases i with _ | i
      · rfl
      · omega
    have k2 := cellsAt_gone (n := 1) (V := modEvo 108) (B := B) (g := fun _ => .slice x n c) (L := []) (j := 1) hR1 rfl (by decide) (by simp) (by simp [modEvo]) fun i hi => by
      rcases i with _ | i
      · rfl
      · omega
    have k3 := cellsAt_gone (n := 5) (V := modEvo 108) (B := B) (g := pieceG s a) (L := []) (j := 2) hR1 rfl (by decide) (by simp) (by simp [modEvo]) fun i hi => by
      rcases i with _ | _ | _ | _ | _ | i
      all_goals first | rfl | omega
    exact fun w' hw' => ⟨k1 w' hw', k2 w' hw', k3 w' hw'⟩
  clear h0 hR1
  obtain ⟨jg, hjg⟩ : ∃ j, β1 0 = j := ⟨_, rfl⟩
  obtain ⟨jc, hjc⟩ : ∃ j, β1 1 = j := ⟨_, rfl⟩
  obtain ⟨jp, hjp⟩ : ∃ j, β1 2 = j := ⟨_, rfl⟩
  rw [hjg, hjc, hjp] at hb
  have hG : Kn ((ctxE Tryd.prog (modEvo 108) w B).after (modEvo 108) B w1 β1 []) (GK k kx kq P Q G) := h1.left.left
  have hO : Kn ((ctxE Tryd.prog (modEvo 108) w B).after (modEvo 108) B w1 β1 []) oneK := h1.left.right
  have hN : Kn ((ctxE Tryd.prog (modEvo 108) w B).after (modEvo 108) B w1 β1 []) (natsAt (modEvo 108) x n l) := h1.right
  clear h1
  try simp -implicitDefEqProofs (maxSteps := 1000000) (disch := first | exact dz3 | fail) only [vcR, vcT, simprocAttr, Ab.part, implies_true, forall_const, true_or, Option.isNone_some, Option.isNone_none, vcXHb, Tryd.f36, List.toList_toArray, hjg,hjc,hjp]
  have hz : slice0 Tryd.prog 120 2 = some [.v .nilFunc, .v .nilFunc] := by kernel_rfl
  have hz2 : ∀ u v : SV, setAt (setAt [.v .nilFunc, .v .nilFunc] 0 [u]) 1 [v] = [u, v] := fun u v => rfl
  have hz3 : ∀ u : SV, (setAt [.v .nilFunc, .v .nilFunc] 0 [u]).length = 2 := fun u => rfl
  obtain ⟨cs, hcs⟩ : ∃ cs, List.map (SV.fz [] β1) (pieceC s a) = cs := ⟨_, rfl⟩
  rw [hcs]
  clear hcs
  have e1 := right1_e jg jc jp k kx kq P Q G x n c s a hs1 hs2
  have hE : rightE P Q G n l s a = if r1B Q n s then r2E P Q G n l s a else 1 := rfl
  obtain ⟨r, hr⟩ : ∃ r, rightE P Q G n l s a = r := ⟨_, rfl⟩
  rw [hr] at hE ⊢
  clear hr
  have e2 : r1B Q n s = true → EvC (modEvo 108) Tryd.prog 68 [.s (.v (.pointer (some ⟨jg, 0, none⟩))), .s (.v (.pointer (some ⟨jc, 0, none⟩))), .s (.v (.pointer (some ⟨jp, 0, none⟩)))] (fun B w => (GK k kx kq P Q G B w ∧ oneK B w) ∧ boxesAt jg jc jp k x n c s a B w ∧ natsAt (modEvo 108) x n l B w)
      (.s (.v (.int .i64 (r2E P Q G n l s a)))) := fun h => by
    unfold r1B at h
    simp only [Bool.and_eq_true, decide_eq_true_eq] at h
    exact right2_e jg jc jp k kx kq P Q G x n c l s a hP2 hQ2 hG2 hl ha h.1.1.1.1 h.1.1.1.2 h.1.1.2 h.1.2
  clear hl
  (repeat' ((first | with_reducible (first | apply cF_pure3 (by assumption) | apply cF_ev3 (by assumption)) | refine X_of _ ?_ | with_reducible (first | exact ⟨_, rfl⟩ | refine And.intro ?_ ?_ | intro _)) <;> try simp -implicitDefEqProofs (maxSteps := 1000000) (disch := first | exact dz3 | fail) only [vcR, vcT, simprocAttr, Ab.part, implies_true, forall_const, true_or, Option.isNone_some, Option.isNone_none, vcXHb, Tryd.f36, List.toList_toArray, arr4_zero, nat4_set1, nat4_setL, nat4_set0, st_bs,xbs_some,hz,hz2,hz3]))
  refine X_loop (ι := Nat) (fun i => i ≤ 2 ∧ (1 ≤ i → r1B Q n s = true) ∧ (2 ≤ i → r2E P Q G n l s a = 0)) (fun i => 2 - i) [6, 8, 9, 14, 15, 16, 17, 18, 19, 20, 21, 22, 23]
    (fun i => [(14, .s (.v (.int .i64 (i : Nat))))])
    (fun i => []) 0 (shape_of fun i => ?_) (by decide) ?_ ?_
  · simp only [List.length_cons, List.length_nil, List.map_cons, List.map_nil, List.nodup_cons, List.nodup_nil, List.mem_cons, Nat.reduceAdd, Nat.reduceEqDiff, or_false, not_false_eq_true, forall_eq_or_imp, forall_eq, or_self, Nat.reduceLT, Nat.reduceLeDiff, and_self, List.forall_mem_cons, List.not_mem_nil, false_implies, implies_true, and_true, true_and, vcOHb]
  · simp -implicitDefEqProofs (maxSteps := 1000000) (disch := first | exact dz3 | fail) only [vcR, vcT, simprocAttr, Ab.part, implies_true, forall_const, true_or, Option.isNone_some, Option.isNone_none, vcXHb, Tryd.f36, List.toList_toArray, again_eq]
    first | exact ⟨_, rfl⟩ | exact ⟨⟨by omega, fun h => absurd h (by decide), fun h => absurd h (by decide)⟩, _, rfl⟩ | (simp; done)
  · intro i us ⟨hi, hi1, hi2⟩
    rcases i with _ | _ | i
    · cases h1 : r1B Q n s with
      | true =>
        rw [h1] at e1
        clear e2
        (repeat' ((first | with_reducible (first | apply cF_pure3 (by assumption) | apply cF_ev3 (by assumption)) | refine X_of _ ?_ | with_reducible (first | exact ⟨_, rfl⟩ | refine And.intro ?_ ?_ | intro _)) <;> try simp -implicitDefEqProofs (maxSteps := 1000000) (disch := first | exact dz3 | fail) only [vcR, vcT, simprocAttr, Ab.part, implies_true, forall_const, true_or, Option.isNone_some, Option.isNone_none, vcXHb, Tryd.f36, List.toList_toArray, arr4_zero, nat4_set1, nat4_setL, nat4_set0]))
        refine ⟨1, by omega, ?_⟩
        simp -implicitDefEqProofs (maxSteps := 1000000) (disch := first | exact dz3 | fail) only [vcR, vcT, simprocAttr, Ab.part, implies_true, forall_const, true_or, Option.isNone_some, Option.isNone_none, vcXHb, Tryd.f36, List.toList_toArray, again_eq,h1]
        first | exact ⟨_, rfl⟩ | (simp; done)
      | false =>
        rw [h1] at e1 hE
        rw [if_neg (by decide)] at hE
        clear e2
        (repeat' ((first | with_reducible (first | apply cF_pure3 (by assumption) | apply cF_ev3 (by assumption)) | refine X_of _ ?_ | with_reducible (first | exact ⟨_, rfl⟩ | refine And.intro ?_ ?_ | intro _)) <;> try simp -implicitDefEqProofs (maxSteps := 1000000) (disch := first | exact dz3 | fail) only [vcR, vcT, simprocAttr, Ab.part, implies_true, forall_const, true_or, Option.isNone_some, Option.isNone_none, vcXHb, Tryd.f36, List.toList_toArray, arr4_zero, nat4_set1, nat4_setL, nat4_set0]))
        exact hE.symm
    · have h1 := hi1 (by omega)
      have e3 := e2 h1
      rw [h1, if_pos rfl] at hE
      rw [← hE] at e3
      clear e1 e2
      by_cases r0 : r = 0
      · subst r0
        (repeat' ((first | with_reducible (first | apply cF_pure3 (by assumption) | apply cF_ev3 (by assumption)) | refine X_of _ ?_ | with_reducible (first | exact ⟨_, rfl⟩ | refine And.intro ?_ ?_ | intro _)) <;> try simp -implicitDefEqProofs (maxSteps := 1000000) (disch := first | exact dz3 | fail) only [vcR, vcT, simprocAttr, Ab.part, implies_true, forall_const, true_or, Option.isNone_some, Option.isNone_none, vcXHb, Tryd.f36, List.toList_toArray, arr4_zero, nat4_set1, nat4_setL, nat4_set0]))
        refine ⟨2, by omega, ?_⟩
        simp -implicitDefEqProofs (maxSteps := 1000000) (disch := first | exact dz3 | fail) only [vcR, vcT, simprocAttr, Ab.part, implies_true, forall_const, true_or, Option.isNone_some, Option.isNone_none, vcXHb, Tryd.f36, List.toList_toArray, again_eq,h1]
        first | exact ⟨hE.symm, _, rfl⟩ | exact ⟨⟨h1, hE.symm⟩, _, rfl⟩ | (simp; done)
      · have hd : (r != 0) = true := bne_iff_ne.2 r0
        (repeat' ((first | with_reducible (first | apply cF_pure3 (by assumption) | apply cF_ev3 (by assumption)) | refine X_of _ ?_ | with_reducible (first | exact ⟨_, rfl⟩ | refine And.intro ?_ ?_ | intro _)) <;> try simp -implicitDefEqProofs (maxSteps := 1000000) (disch := first | exact dz3 | fail) only [vcR, vcT, simprocAttr, Ab.part, implies_true, forall_const, true_or, Option.isNone_some, Option.isNone_none, vcXHb, Tryd.f36, List.toList_toArray, arr4_zero, nat4_set1, nat4_setL, nat4_set0, hd]))
    · have : i = 0 := by omega
      subst this
      have h1 := hi1 (by omega)
      have h2 := hi2 (by omega)
      rw [h1, if_pos rfl, h2] at hE
      clear e1 e2
      (repeat' ((first | with_reducible (first | apply cF_pure3 (by assumption) | apply cF_ev3 (by assumption)) | refine X_of _ ?_ | with_reducible (first | exact ⟨_, rfl⟩ | refine And.intro ?_ ?_ | intro _)) <;> try simp -implicitDefEqProofs (maxSteps := 1000000) (disch := first | exact dz3 | fail) only [vcR, vcT, simprocAttr, Ab.part, implies_true, forall_const, true_or, Option.isNone_some, Option.isNone_none, vcXHb, Tryd.f36, List.toList_toArray, arr4_zero, nat4_set1, nat4_setL, nat4_set0]))
      exact hE.symm
def NewR (P Q G : Nat) (w0 : World) (v : TV) (H : Heap) (A : World → Prop) : Prop :=
  ∃ kx kq, v = .tup [.s (.p 1 0), .s (.v (.int .i64 0))] ∧ H[1]? = some ⟨84, grpc P Q G (.v (.pointer (some ⟨kx, 0, none⟩))) (.v (.pointer (some ⟨kq, 0, none⟩)))⟩ ∧
    A = fun w => isMod 108 kx P w0.heap.size w ∧ isMod 108 kq Q w0.heap.size w ∧ kx ≠ kq
def GrpR (P Q G : Nat) (v : TV) (H : Heap) : Prop := ∃ bx bq, v = .tup [.s (.p 0 0), .s (.v (.int .i64 0))] ∧ H = [⟨84, grpc P Q G (.p 1 0) (.p 2 0)⟩, ⟨108, modS P bx⟩, ⟨108, modS Q bq⟩]
theorem grp_again {P0 : Program} {P Q G : Nat} {w w' : World} {v : TV} {H : Heap} {A : World → Prop} {β : Nat → Nat} {e : Ending} (h : NewR P Q G w v H A) (hA : A w') (hR : Rep (ctx0 P0 w) H β w') (he : ∀ β'', Agrees H.length β β'' → e = .returned (v.conc β'')) :
    ∃ v H' β', GrpR P Q G v H' ∧ (∀ b ∈ H', ∀ x ∈ b.cs, x.ok H'.length) ∧ v.ok H'.length ∧ Rep (ctx0 P0 w) H' β' w' ∧ e = .returned (v.conc β') := by
  obtain ⟨kx, kq, rfl, hH, rfl⟩ := h
  obtain ⟨⟨hP, hBx, bx, hx⟩, ⟨hQ, hBq, bq, hq⟩, hne⟩ := hA
  have h1 := hR.blk β (.refl _ _) 1 _ hH
  have hlt : 1 < H.length := (List.getElem?_eq_some_iff.1 hH).1
  have hdx : β 1 ≠ kx := fun e => by
    rw [e, hx] at h1
    injection h1 with h1
    unfold modObj AB.conc at h1
    injection h1 with _ h1 _
    exact absurd (show 108 = 84 from h1) (by decide)
  have hdq : β 1 ≠ kq := fun e => by
    rw [e, hq] at h1
    injection h1 with h1
    unfold modObj AB.conc at h1
    injection h1 with _ h1 _
    exact absurd (show 108 = 84 from h1) (by decide)
  have hB1 : w.heap.size ≤ β 1 := new_lie hR (fun _ h => h) hlt
  obtain ⟨β', hβ⟩ : ∃ β' : Nat → Nat, β' = fun j => if j = 0 then β 1 else if j = 1 then kx else kq := ⟨_, rfl⟩
  have b0 : β' 0 = β 1 := by rw [hβ]; rfl
  have b1 : β' 1 = kx := by rw [hβ]; rfl
  have b2 : β' 2 = kq := by rw [hβ]; rfl
  refine ⟨_, _, β', ⟨bx, bq, rfl, rfl⟩, ?_, ?_, ⟨⟨Nat.zero_le _, fun j hj => absurd hj (Nat.not_lt_zero j)⟩, hR.fr, fun p q hp hq hpq => ?_, fun j hj => ?_, fun j b hb h => h.elim, fun β'' h'' j b hb => ?_⟩, ?_⟩
  · intro b hb
    simp only [List.mem_cons, List.not_mem_nil, or_false] at hb
    rcases hb with rfl | rfl | rfl
    · show ∀ x ∈ grpc P Q G (.p 1 0) (.p 2 0), x.ok 3
      rw [grpc_okk]
      exact ⟨by show 1 < 3; decide, by show 2 < 3; decide⟩
    · exact fun x hx => SV.ok_mono (modS_ok x hx) (Nat.zero_le _)
    · exact fun x hx => SV.ok_mono (modS_ok x hx) (Nat.zero_le _)
  · intro x hx
    simp only [List.mem_cons, List.not_mem_nil, or_false] at hx
    rcases hx with rfl | rfl
    · show 0 < 3; decide
    · trivial
  · simp only [List.length_cons, List.length_nil] at hp hq
    rcases p with _ | _ | _ | p <;> rcases q with _ | _ | _ | q <;> first | rfl | omega | (simp only [Nat.zero_add, Nat.reduceAdd, b0, b1, b2] at hpq; exfalso; first | exact hdx hpq | exact hdq hpq | exact hne hpq | exact hdx hpq.symm | exact hdq hpq.symm | exact hne hpq.symm)
  · simp only [List.length_cons, List.length_nil] at hj
    refine .inl ?_
    rcases j with _ | _ | _ | j
    · rw [b0]; exact hB1
    · rw [b1]; exact hBx
    · rw [b2]; exact hBq
    · omega
  · rcases j with _ | _ | _ | j
    · simp only [List.getElem?_cons_zero, Option.some.injEq] at hb
      subst hb
      have e1 : β'' 1 = kx := by rw [h'' 1 (by show 1 < 3; decide), b1]
      have e2 : β'' 2 = kq := by rw [h'' 2 (by show 2 < 3; decide), b2]
      rw [b0, h1]
      simp only [AB.conc, grpc, prms, nat4, arr, List.map_append, List.map_map, List.map_cons, List.map_nil, Function.comp_def, SV.conc, e1, e2]
    · simp only [List.getElem?_cons_zero, List.getElem?_cons_succ, Option.some.injEq] at hb
      subst hb
      rw [show 0 + 1 = 1 from rfl, b1, hx, modObj_conc]
    · simp only [List.getElem?_cons_zero, List.getElem?_cons_succ, Option.some.injEq] at hb
      subst hb
      rw [show 0 + 1 + 1 = 2 from rfl, b2, hq, modObj_conc]
    · simp at hb
  · rw [he β (.refl _ _)]
    simp only [TV.conc, AV.conc, SV.conc, List.map_cons, List.map_nil, b0]
theorem grpb1 {P Q G : Nat} : (setAt [.v (.int .u64 0), .v (.int .u64 0), .v (.int .u64 0), .v (.int .u64 0), .v (.int .u64 0), .v (.int .u64 0), .v (.int .u64 0), .v (.int .u64 0), .v (.int .u64 0), .v (.int .u64 0), .v (.int .u64 0), .v (.int .u64 0), .v (.pointer none), .v (.pointer none)] 0 (prms P Q G)).length = 14 := rfl
theorem grpb2 {P Q G : Nat} {x : SV} : ((setAt [.v (.int .u64 0), .v (.int .u64 0), .v (.int .u64 0), .v (.int .u64 0), .v (.int .u64 0), .v (.int .u64 0), .v (.int .u64 0), .v (.int .u64 0), .v (.int .u64 0), .v (.int .u64 0), .v (.int .u64 0), .v (.int .u64 0), .v (.pointer none), .v (.pointer none)] 0 (prms P Q G)).set 12 x).length = 14 := rfl
theorem grpb3 {P Q G : Nat} {x y : SV} : ((setAt [.v (.int .u64 0), .v (.int .u64 0), .v (.int .u64 0), .v (.int .u64 0), .v (.int .u64 0), .v (.int .u64 0), .v (.int .u64 0), .v (.int .u64 0), .v (.int .u64 0), .v (.int .u64 0), .v (.int .u64 0), .v (.int .u64 0), .v (.pointer none), .v (.pointer none)] 0 (prms P Q G)).set 12 x).set 13 y = grpc P Q G x y := rfl
theorem gNew_good (P Q G : Nat) (x : Option Addr) (m c : Nat) (l : Nat → Pf) (hP : P < 2 ^ 256) (hQ : Q < 2 ^ 256) (hG : G < 2 ^ 256) (hl : PfOk l) (hm : m < 9223372036854775808) (he : pvS l m Q = 0) (hok : grOK P Q G) :
    NewG Tryd.prog 15 [.agg (prms P Q G), .s (.v (.slice x m c))] (fun w => prfs x m l w ∧ gv w) (GrpR P Q G) := by
  have hpv := (proves_m x m c l Q hl hm hQ).ev (V := Evo.none)
  rw [he] at hpv
  clear he hl
  obtain ⟨hOP, hOQ, c5, cq, c2, cg, hg1⟩ := hok
  have h1 := new_good P hOP
  have h2 := new_good Q hOQ
  intro w hpre
  refine (calls_of_XA (Γ := ctx0 Tryd.prog w) (A := fun _ => True) (R := NewR P Q G w) Tryd.func15 rfl (rep0 Tryd.prog w fun _ => 0) trivial (by simp only [List.length_cons, List.length_nil, List.map_cons, List.map_nil, List.nodup_cons, List.nodup_nil, List.mem_cons, Nat.reduceAdd, Nat.reduceEqDiff, or_false, not_false_eq_true, forall_eq_or_imp, forall_eq, or_self, Nat.reduceLT, Nat.reduceLeDiff, and_self, List.forall_mem_cons, List.not_mem_nil, false_implies, implies_true, and_true, true_and, vcOGb]) ?_).mono fun e w' ⟨v, H', A', β', hv, hA, hR, he⟩ => grp_again hv hA hR he
  simp only [List.length_cons, List.length_nil, Tryd.ntmps15, Nat.reduceAdd, Nat.reduceSub, List.replicate_succ, List.replicate_zero, List.cons_append, List.nil_append]
  have hFL : Kn (ctx0 Tryd.prog w) fun _ w => prfs x m l w ∧ least w := fun w' hw' => ⟨(prfs_kn (P0 := Tryd.prog) hpre.1).prfs0 w' hw', (least_kn (P0 := Tryd.prog) hpre.2.1).least0 w' hw'⟩
  refine XA_seq (XA_of' ?_)
  (repeat' ((first | with_reducible (first | apply XQ_cons | apply XQ_consG | apply XQ_nil | apply XR_cons | apply XR_consG | apply XR_nil | apply cF_pure2 (by assumption) | apply cV_pure2 (by assumption) | apply cF_ev2 (by assumption) | apply cV_ev2 (by assumption) | apply cF_pure2 (cmp_c _ _ bd2 bd2) | apply cV_pure2 (cmp_c _ _ bd2 bd2) | apply cF_ev2 (pow_e _ _ _ _ bd2 bd2 bd2) | apply cV_ev2 (pow_e _ _ _ _ bd2 bd2 bd2)) | ((with_reducible apply cF_new2 (by assumption)); (first | rintro _ _ ⟨rfl, rfl⟩ | rintro _ _ ⟨_, _, rfl, rfl⟩)) | with_reducible (first | apply gRS (by with_unfolding_all rfl) | apply gR (by with_unfolding_all rfl) | apply gS (by with_unfolding_all rfl) | fail) | (with_reducible apply X_drawC (id := 8) 24; (next => (kernel_rfl)); (next => (kernel_rfl))) | refine X_of _ ?_ | with_reducible (first | exact ⟨_, rfl⟩ | refine And.intro ?_ ?_ | intro _)) <;> try simp -implicitDefEqProofs (maxSteps := 1000000) (disch := first | exact dz2 | fail) only [vcR, vcT, simprocAttr, Ab.part, implies_true, forall_const, true_or, Option.isNone_some, Option.isNone_none, vcXGb, Tryd.f15, List.toList_toArray, arr4_zero, nat4_set1, nat4_setL, nat4_set0, seqA_n,prms_splice]))
  refine XA_seq (XA_of' ?_)
  (repeat' ((first | with_reducible (first | apply XQ_cons | apply XQ_consG | apply XQ_nil | apply XR_cons | apply XR_consG | apply XR_nil | apply cF_pure2 (by assumption) | apply cV_pure2 (by assumption) | apply cF_ev2 (by assumption) | apply cV_ev2 (by assumption) | apply cF_pure2 (cmp_c _ _ bd2 bd2) | apply cV_pure2 (cmp_c _ _ bd2 bd2) | apply cF_ev2 (pow_e _ _ _ _ bd2 bd2 bd2) | apply cV_ev2 (pow_e _ _ _ _ bd2 bd2 bd2)) | ((with_reducible apply cF_new2 (by assumption)); (first | rintro _ _ ⟨rfl, rfl⟩ | rintro _ _ ⟨_, _, rfl, rfl⟩)) | with_reducible (first | apply gRS (by with_unfolding_all rfl) | apply gR (by with_unfolding_all rfl) | apply gS (by with_unfolding_all rfl) | fail) | (with_reducible apply X_drawC (id := 8) 24; (next => (kernel_rfl)); (next => (kernel_rfl))) | refine X_of _ ?_ | with_reducible (first | exact ⟨_, rfl⟩ | refine And.intro ?_ ?_ | intro _)) <;> try simp -implicitDefEqProofs (maxSteps := 1000000) (disch := first | exact dz2 | fail) only [vcR, vcT, simprocAttr, Ab.part, implies_true, forall_const, true_or, Option.isNone_some, Option.isNone_none, vcXGb, Tryd.f15, List.toList_toArray, arr4_zero, nat4_set1, nat4_setL, nat4_set0, seqA_n,bne_self_eq_false]))
  refine XA_seq (XA_of' ?_)
  (repeat' ((first | with_reducible (first | apply XQ_cons | apply XQ_consG | apply XQ_nil | apply XR_cons | apply XR_consG | apply XR_nil | apply cF_pure2 (by assumption) | apply cV_pure2 (by assumption) | apply cF_ev2 (by assumption) | apply cV_ev2 (by assumption) | apply cF_pure2 (cmp_c _ _ bd2 bd2) | apply cV_pure2 (cmp_c _ _ bd2 bd2) | apply cF_ev2 (pow_e _ _ _ _ bd2 bd2 bd2) | apply cV_ev2 (pow_e _ _ _ _ bd2 bd2 bd2)) | ((with_reducible apply cF_new2 (by assumption)); (first | rintro _ _ ⟨rfl, rfl⟩ | rintro _ _ ⟨_, _, rfl, rfl⟩)) | with_reducible (first | apply gRS (by with_unfolding_all rfl) | apply gR (by with_unfolding_all rfl) | apply gS (by with_unfolding_all rfl) | fail) | (with_reducible apply X_drawC (id := 8) 24; (next => (kernel_rfl)); (next => (kernel_rfl))) | refine X_of _ ?_ | with_reducible (first | exact ⟨_, rfl⟩ | refine And.intro ?_ ?_ | intro _)) <;> try simp -implicitDefEqProofs (maxSteps := 1000000) (disch := first | exact dz2 | fail) only [vcR, vcT, simprocAttr, Ab.part, implies_true, forall_const, true_or, Option.isNone_some, Option.isNone_none, vcXGb, Tryd.f15, List.toList_toArray, arr4_zero, nat4_set1, nat4_setL, nat4_set0, seqA_n]))
  refine XA_seq (XA_of' ?_)
  (repeat' ((first | with_reducible (first | apply XQ_cons | apply XQ_consG | apply XQ_nil | apply XR_cons | apply XR_consG | apply XR_nil | apply cF_pure2 (by assumption) | apply cV_pure2 (by assumption) | apply cF_ev2 (by assumption) | apply cV_ev2 (by assumption) | apply cF_pure2 (cmp_c _ _ bd2 bd2) | apply cV_pure2 (cmp_c _ _ bd2 bd2) | apply cF_ev2 (pow_e _ _ _ _ bd2 bd2 bd2) | apply cV_ev2 (pow_e _ _ _ _ bd2 bd2 bd2)) | ((with_reducible apply cF_new2 (by assumption)); (first | rintro _ _ ⟨rfl, rfl⟩ | rintro _ _ ⟨_, _, rfl, rfl⟩)) | with_reducible (first | apply gRS (by with_unfolding_all rfl) | apply gR (by with_unfolding_all rfl) | apply gS (by with_unfolding_all rfl) | fail) | (with_reducible apply X_drawC (id := 8) 24; (next => (kernel_rfl)); (next => (kernel_rfl))) | refine X_of _ ?_ | with_reducible (first | exact ⟨_, rfl⟩ | refine And.intro ?_ ?_ | intro _)) <;> try simp -implicitDefEqProofs (maxSteps := 1000000) (disch := first | exact dz2 | fail) only [vcR, vcT, simprocAttr, Ab.part, implies_true, forall_const, true_or, Option.isNone_some, Option.isNone_none, vcXGb, Tryd.f15, List.toList_toArray, arr4_zero, nat4_set1, nat4_setL, nat4_set0, seqA_n]))
  refine XA_two 1 2 [0] rfl rfl hOP hOQ (by decide) (by decide) (by decide) (by simp) (by simp [pickH_cons, pickH_nil, consH_some]) fun β1 w1 hR1 hM1 hM2 hK => ?_
  have g1 : ∀ {K : TV → HE → Prop}, xext ((ctx0 Tryd.prog w).after (modEvo 108) w.heap.size w1 β1 [0]) (some true) 4 ⟨2, 0, none⟩ K = K (.agg (nat4 1)) .none := fun {K} => Kn.one1 (hK _ oneK_stays (gnat_at _ hpre.2.2.2.2))
  have g5 : ∀ {K : TV → HE → Prop}, xext ((ctx0 Tryd.prog w).after (modEvo 108) w.heap.size w1 β1 [0]) (some true) 4 ⟨0, 0, none⟩ K = K (.agg (nat4 5)) .none := fun {K} => Kn.gnat (hK _ (natsAt_stays _ _ _ _) (gnat_at _ hpre.2.2.1))
  have g2 : ∀ {K : TV → HE → Prop}, xext ((ctx0 Tryd.prog w).after (modEvo 108) w.heap.size w1 β1 [0]) (some true) 4 ⟨1, 0, none⟩ K = K (.agg (nat4 2)) .none := fun {K} => Kn.gnat (hK _ (natsAt_stays _ _ _ _) (gnat_at _ hpre.2.2.2.1))
  clear hpre hFL hK hpv h1 h2
  obtain ⟨kx, hkx⟩ : ∃ kx, β1 1 = kx := ⟨_, rfl⟩
  obtain ⟨kq, hkq⟩ : ∃ kq, β1 2 = kq := ⟨_, rfl⟩
  rw [hkx] at hM1
  rw [hkq] at hM2
  have hpw := pow_e kx P G Q hOP hG hQ
  obtain ⟨r, hr⟩ : ∃ r, G ^ Q % P = r := ⟨_, rfl⟩
  have hr2 : r < 2 ^ 256 := by rw [← hr]; exact hOP.mod_lt
  rw [hr] at hpw
  rw [hkx, hkq]
  have hrr : r = 1 := hr.symm.trans hg1
  subst hrr
  have hs : ¬ sg P 5 < 0 := by have := sg_nonneg c5; omega
  have hs2 : ¬ sg Q P ≥ 0 := by have := sg_lt0 cq; omega
  have hs3 : ¬ sg G 2 < 0 := by have := sg_nonneg c2; omega
  have hs4 : ¬ sg G P ≥ 0 := by have := sg_lt0 cg; omega
  clear hg1 hr hr2
  try simp -implicitDefEqProofs (maxSteps := 1000000) (disch := first | exact dz2 | fail) only [vcR, vcT, simprocAttr, Ab.part, implies_true, forall_const, true_or, Option.isNone_some, Option.isNone_none, vcXGb, Tryd.f15, List.toList_toArray, hkx,hkq]
  (repeat' ((first | with_reducible (first | apply XQ_cons | apply XQ_consG | apply XQ_nil | apply XR_cons | apply XR_consG | apply XR_nil | apply cF_pure2 (by assumption) | apply cV_pure2 (by assumption) | apply cF_ev2 (by assumption) | apply cV_ev2 (by assumption) | apply cF_pure2 (cmp_c _ _ bd2 bd2) | apply cV_pure2 (cmp_c _ _ bd2 bd2)) | ((with_reducible apply cF_new2 (by assumption)); (first | rintro _ _ ⟨rfl, rfl⟩ | rintro _ _ ⟨_, _, rfl, rfl⟩)) | with_reducible (first | apply gRS (by with_unfolding_all rfl) | apply gR (by with_unfolding_all rfl) | apply gS (by with_unfolding_all rfl) | apply gSB (by with_unfolding_all rfl) | apply gB (by with_unfolding_all rfl) | fail) | (with_reducible apply X_drawC (id := 8) 24; (next => (kernel_rfl)); (next => (kernel_rfl))) | refine X_of _ ?_ | with_reducible (first | exact ⟨_, rfl⟩ | refine And.intro ?_ ?_ | intro _)) <;> try simp -implicitDefEqProofs (maxSteps := 1000000) (disch := first | exact dz2 | fail) only [vcR, vcT, simprocAttr, Ab.part, implies_true, forall_const, true_or, Option.isNone_some, Option.isNone_none, vcXGb, Tryd.f15, List.toList_toArray, arr4_zero, nat4_set1, nat4_setL, nat4_set0, g5,g2,g1,bne_self_eq_false,hs,hs2,hs3,hs4,retA_n,retA_r,grpb1,grpb2,grpb3]))
  exact ⟨kx, kq, rfl, rfl, rfl⟩
theorem gv_kn {P0 : Program} {w : World} (h : gv w) : Kn (ctx0 P0 w) fun _ w => gv w := fun w' hw' => ⟨(least_kn (P0 := P0) h.1).least0 w' hw', (gnat_kn (P0 := P0) h.2.1).gnat0 w' hw', (gnat_kn (P0 := P0) h.2.2.1).gnat0 w' hw', (gnat_kn (P0 := P0) h.2.2.2).gnat0 w' hw'⟩
theorem lies_at {Γ : Ctx} {H : Heap} {β : Nat → Nat} {w : World} {h0 n Q : Nat} {H1 : Heap} (hR : Rep Γ H β w) (hL : Lies n Q H1) (hd : ∀ (j : Nat) (b : AB), H1[j]? = some b → H[j + h0]? = some (b.ren (· + h0))) :
    ∃ l, PfOk l ∧ pvS l n Q = 0 ∧ pvS l 1 Q = 20 ∧ prfs (some ⟨β h0, 0, none⟩) n l w := by
  obtain ⟨l, h1, h2, h3, h4⟩ := hL fun j => β (j + h0)
  have h5 := h4 w fun j b hb => by rw [hR.blk β (.refl _ _) _ _ (hd j b hb), AB.conc_ren]; rfl
  simp only [Nat.zero_add] at h5
  exact ⟨l, h1, h2, h3, h5⟩
section
variable {Γ : Ctx} {H A : Heap} {K : TV → Heap → Prop} {p : AB} {h0 n N P Q : Nat} {H1 : Heap}
theorem yF_small {z : Int} (h : NewG Tryd.prog 14 [.s (.v (.int .i64 z))] (fun _ => True) (SmR P Q)) (hP : Γ.P = Tryd.prog) (hev : ∀ t, ¬ Γ.ev.TM t) (hh : H.length = h0)
    (hK : ∀ n A H1, 1 ≤ n → n ≤ 5 → Lies n Q H1 → (∀ (j : Nat) (b : AB), H1[j]? = some b → A[j + h0]? = some (b.ren (· + h0))) → (∃ X, A = H ++ X) → h0 < A.length → K (.tup [.agg (prms P Q 4), .s (.sl h0 0 n n)]) A) : xcallF Γ H 14 [.s (.v (.int .i64 z))] K := by
  subst hh
  refine yF_newG (P := Tryd.prog) (fun β w hR => ⟨_, h, trivial⟩) hP (by kernel_rfl) hev ?_
  rintro _ H1 ⟨n, ⟨h1, h5⟩, rfl, hL, h0⟩
  have e : TV.ren (· + H.length) (.tup [.agg (prms P Q 4), .s (.sl 0 0 n n)]) = .tup [.agg (prms P Q 4), .s (.sl (0 + H.length) 0 n n)] := rfl
  rw [e, Nat.zero_add]
  refine hK n _ H1 h1 h5 hL (fun j b hb => ?_) ⟨_, rfl⟩ (by simp; omega)
  rw [List.getElem?_append_right (by omega), Nat.add_sub_cancel, List.getElem?_map, hb]
  rfl
theorem app_at {B : Heap} {b : AB} {j : Nat} (h : A[j]? = some b) : (A ++ B)[j]? = some b := by
  rw [List.getElem?_append_left (List.getElem?_eq_some_iff.1 h).1, h]
theorem yF_new (hL : Lies n Q H1) (hn5 : n ≤ 5) (hd : ∀ (j : Nat) (b : AB), H1[j]? = some b → A[j + h0]? = some (b.ren (· + h0))) (hN : A.length = N) (hok : grOK P Q 4) (hgv : Kn Γ fun _ w => gv w) (hP : Γ.P = Tryd.prog) (hev : ∀ t, ¬ Γ.ev.TM t)
    (hK : ∀ bx bq, K (.tup [.s (.p (N + 1) 0), .s (.v (.int .i64 0))]) (A ++ [p, ⟨84, grpc P Q 4 (.p (N + 2) 0) (.p (N + 3) 0)⟩, ⟨108, modS P bx⟩, ⟨108, modS Q bq⟩])) :
    xcallF Γ (A ++ [p]) 15 [.agg (prms P Q 4), .s (.sl h0 0 n n)] K := by
  subst hN
  refine yF_newG (P := Tryd.prog) (R := GrpR P Q 4) (fun β w hR => ?_) hP (by kernel_rfl) hev ?_
  · obtain ⟨l, h1, h2, _, h4⟩ := lies_at hR hL fun j b hb => app_at (hd j b hb)
    exact ⟨_, gNew_good P Q 4 (some ⟨β h0, 0, none⟩) n n l hok.1.lt hok.2.1.lt (by decide) h1 (by omega) h2 hok, h4, hgv w hR.fr.to⟩
  · rintro _ _ ⟨bx, bq, rfl, rfl⟩
    have h1 := hK bx bq
    have hl : (A ++ [p]).length = A.length + 1 := by simp
    rw [hl]
    have e : TV.ren (· + (A.length + 1)) (.tup [.s (.p 0 0), .s (.v (.int .i64 0))]) = .tup [.s (.p (0 + (A.length + 1)) 0), .s (.v (.int .i64 0))] := rfl
    rw [e, Nat.zero_add, List.append_assoc]
    have e2 : [p] ++ List.map (AB.ren (· + (A.length + 1))) [⟨84, grpc P Q 4 (.p 1 0) (.p 2 0)⟩, ⟨108, modS P bx⟩, ⟨108, modS Q bq⟩] = [p, ⟨84, grpc P Q 4 (.p (A.length + 2) 0) (.p (A.length + 3) 0)⟩, ⟨108, modS P bx⟩, ⟨108, modS Q bq⟩] := by
      have e3 : 1 + (A.length + 1) = A.length + 2 := by omega
      have e4 : 2 + (A.length + 1) = A.length + 3 := by omega
      simp only [List.map_cons, List.map_nil, abren_mk, ren_grpc, List.singleton_append]
      simp only [SV.ren, e3, e4]
      have e5 : ∀ (ρ : Nat → Nat) (m : Nat) (b : Bool), (modS m b).map (SV.ren ρ) = modS m b := fun ρ m b => SV.rens_ok0 modS_ok
      rw [e5, e5]
    rw [e2]
    exact h1
theorem end0 (hN : A.length = N) {B : Heap} : (A ++ B)[N]? = B[0]? := by subst hN; rw [List.getElem?_append_right (Nat.le_refl _), Nat.sub_self]
theorem endk (hN : A.length = N) {B : Heap} {k : Nat} : (A ++ B)[N + k]? = B[k]? := by subst hN; rw [List.getElem?_append_right (by omega), Nat.add_sub_cancel_left]
theorem end_put (hN : A.length = N) {B : Heap} {t : Nat} {cs cs' : List SV} : putH (A ++ ⟨t, cs⟩ :: B) N cs' = A ++ ⟨t, cs'⟩ :: B := by
  subst hN
  unfold putH
  induction A with
  | nil => rfl
  | cons a A ih =>
    show List.modify (a :: (A ++ ⟨t, cs⟩ :: B)) (A.length + 1) _ = _
    rw [List.modify_succ_cons]
    exact congrArg (a :: ·) ih
theorem end_len (hN : A.length = N) {B : Heap} : (A ++ B).length = N + B.length := by rw [List.length_append, hN]
end
def SmG (P Q : Nat) (v : TV) (H : Heap) : Prop := ∃ bx bq, v = .s (.p 0 0) ∧ H = [⟨84, grpc P Q 4 (.p 1 0) (.p 2 0)⟩, ⟨108, modS P bx⟩, ⟨108, modS Q bq⟩]
theorem lsmall_g (z : Int) : NewG Tryd.prog 34 [.s (.v (.int .i64 z))] gv (SmG (smP z) (smQ z)) := by
  have hsm := small_g z
  have hok := sm_ok z
  obtain ⟨P, hP⟩ : ∃ P, smP z = P := ⟨_, rfl⟩
  obtain ⟨Q, hQ⟩ : ∃ Q, smQ z = Q := ⟨_, rfl⟩
  rw [hP, hQ] at hsm hok ⊢
  clear hP hQ
  refine newG_of Tryd.func34 rfl (by simp only [List.length_cons, List.length_nil, List.map_cons, List.map_nil, List.nodup_cons, List.nodup_nil, List.mem_cons, Nat.reduceAdd, Nat.reduceEqDiff, or_false, not_false_eq_true, forall_eq_or_imp, forall_eq, or_self, Nat.reduceLT, Nat.reduceLeDiff, and_self, List.forall_mem_cons, List.not_mem_nil, false_implies, implies_true, and_true, true_and, vcOHb]) fun w hpre => ?_
  simp only [List.length_cons, List.length_nil, Tryd.ntmps34, Nat.reduceAdd, Nat.reduceSub, List.replicate_succ, List.replicate_zero, List.cons_append, List.nil_append]
  have hgv := gv_kn (P0 := Tryd.prog) hpre
  (repeat' ((first | with_reducible (first | apply XR_cons | apply XR_consG | apply XR_nil | apply cF_pure3 (by assumption) | apply cF_ev3 (by assumption)) | ((with_reducible apply cF_new3 (by assumption)); (first | rintro _ _ ⟨rfl, rfl⟩ | rintro _ _ ⟨_, _, rfl, rfl⟩)) | with_reducible (first | apply gRS (by with_unfolding_all rfl) | apply gR (by with_unfolding_all rfl) | apply gS (by with_unfolding_all rfl) | fail) | refine X_of _ ?_ | with_reducible (first | exact ⟨_, rfl⟩ | refine And.intro ?_ ?_ | intro _)) <;> try simp -implicitDefEqProofs (maxSteps := 1000000) (disch := first | exact dz3 | fail) only [vcR, vcT, simprocAttr, Ab.part, implies_true, forall_const, true_or, Option.isNone_some, Option.isNone_none, vcXHb, Tryd.f34, List.toList_toArray, arr4_zero, nat4_set1, nat4_setL, nat4_set0]))
  refine yF_small (h0 := 0) hsm rfl (fun _ h => h) rfl ?_
  intro n0 A H1 hn1 hn5 hLi hd hA hN0
  clear hA
  obtain ⟨N, hN⟩ : ∃ N, A.length = N := ⟨_, rfl⟩
  rw [hN] at hN0
  have q0 : ∀ {B : Heap}, (A ++ B)[N]? = B[0]? := fun {B} => end0 hN
  have qs : ∀ {B : Heap} {t : Nat} {cs cs' : List SV}, putH (A ++ ⟨t, cs⟩ :: B) N cs' = A ++ ⟨t, cs'⟩ :: B := fun {B t cs cs'} => end_put hN
  try simp -implicitDefEqProofs (maxSteps := 1000000) (disch := first | exact dz3 | fail) only [vcR, vcT, simprocAttr, Ab.part, implies_true, forall_const, true_or, Option.isNone_some, Option.isNone_none, vcXHb, Tryd.f34, List.toList_toArray, hN,q0,qs]
  (repeat' ((first | with_reducible (first | apply XR_cons | apply XR_consG | apply XR_nil | apply cF_pure3 (by assumption) | apply cF_ev3 (by assumption)) | ((with_reducible apply cF_new3 (by assumption)); (first | rintro _ _ ⟨rfl, rfl⟩ | rintro _ _ ⟨_, _, rfl, rfl⟩)) | with_reducible (first | apply gRS (by with_unfolding_all rfl) | apply gR (by with_unfolding_all rfl) | apply gS (by with_unfolding_all rfl) | fail) | refine X_of _ ?_ | with_reducible (first | exact ⟨_, rfl⟩ | refine And.intro ?_ ?_ | intro _)) <;> try simp -implicitDefEqProofs (maxSteps := 1000000) (disch := first | exact dz3 | fail) only [vcR, vcT, simprocAttr, Ab.part, implies_true, forall_const, true_or, Option.isNone_some, Option.isNone_none, vcXHb, Tryd.f34, List.toList_toArray, arr4_zero, nat4_set1, nat4_setL, nat4_set0, hN,q0,qs]))
  refine yF_new hLi hn5 hd hN hok.gr hgv rfl (fun _ h => h) ?_
  intro bx bq
  (try (first | with_reducible refine X_regRS ?_ | with_reducible refine X_regR ?_ | (with_reducible refine X_seqX ?_; with_reducible refine X_blockX ?_; with_reducible refine X_regR ?_))); (repeat ((first | with_reducible refine XR_make ?_ | with_reducible refine XR_append ?_ | with_reducible refine XR_cons ?_ | with_reducible refine XR_consG ?_ | with_reducible refine XR_nil ?_); try simp -implicitDefEqProofs (maxSteps := 1000000) (disch := first | exact dz3 | fail) only [vcR, vcT, simprocAttr, Ab.part, implies_true, forall_const, true_or, Option.isNone_some, Option.isNone_none, vcXHb, Tryd.f34, List.toList_toArray, hN,q0,qs]))
  (repeat' ((first | with_reducible (first | apply XR_cons | apply XR_consG | apply XR_nil | apply cF_pure3 (by assumption) | apply cF_ev3 (by assumption)) | ((with_reducible apply cF_new3 (by assumption)); (first | rintro _ _ ⟨rfl, rfl⟩ | rintro _ _ ⟨_, _, rfl, rfl⟩)) | with_reducible (first | apply gRS (by with_unfolding_all rfl) | apply gR (by with_unfolding_all rfl) | apply gS (by with_unfolding_all rfl) | fail) | refine X_of _ ?_ | with_reducible (first | exact ⟨_, rfl⟩ | refine And.intro ?_ ?_ | intro _)) <;> try simp -implicitDefEqProofs (maxSteps := 1000000) (disch := first | exact dz3 | fail) only [vcR, vcT, simprocAttr, Ab.part, implies_true, forall_const, true_or, Option.isNone_some, Option.isNone_none, vcXHb, Tryd.f34, List.toList_toArray, arr4_zero, nat4_set1, nat4_setL, nat4_set0, hN,q0,qs]))
  refine ⟨[N + 1, N + 2, N + 3], .s (.p 0 0), [⟨84, grpc P Q 4 (.p 1 0) (.p 2 0)⟩, ⟨108, modS P bx⟩, ⟨108, modS Q bq⟩], ⟨bx, bq, rfl, rfl⟩, by simp, rfl, by show 0 < 3; decide, ⟨(endk hN (k := 1)).trans ?_, (endk hN (k := 2)).trans ?_, (endk hN (k := 3)).trans ?_, trivial⟩, ?_⟩
  · rfl
  · show some (⟨108, modS P bx⟩ : AB) = some (AB.ren _ ⟨108, modS P bx⟩)
    rw [abren_mk, SV.rens_ok0 modS_ok]
  · show some (⟨108, modS Q bq⟩ : AB) = some (AB.ren _ ⟨108, modS Q bq⟩)
    rw [abren_mk, SV.rens_ok0 modS_ok]
  · intro b hb
    simp only [List.mem_cons, List.not_mem_nil, or_false] at hb
    rcases hb with rfl | rfl | rfl
    · show ∀ x ∈ grpc P Q 4 (.p 1 0) (.p 2 0), x.ok 3
      rw [grpc_okk]
      exact ⟨by show 1 < 3; decide, by show 2 < 3; decide⟩
    · exact fun x hx => SV.ok_mono (modS_ok x hx) (Nat.zero_le _)
    · exact fun x hx => SV.ok_mono (modS_ok x hx) (Nat.zero_le _)
theorem nats_same (x y : Option Addr) (n c d : Nat) (l : Nat → Nat) (hl : ∀ i, l i < 2 ^ 256) (hn : n < 9223372036854775808) :
    EvC (modEvo 108) Tryd.prog 63 [.s (.v (.slice x n c)), .s (.v (.slice y n d))] (fun B w => natsAt (modEvo 108) x n l B w ∧ natsAt (modEvo 108) y n l B w) (.s (.v (.bool true))) := by
  (refine evC_of Tryd.func63 rfl (by simp only [List.length_cons, List.length_nil, List.map_cons, List.map_nil, List.nodup_cons, List.nodup_nil, List.mem_cons, Nat.reduceAdd, Nat.reduceEqDiff, or_false, not_false_eq_true, forall_eq_or_imp, forall_eq, or_self, Nat.reduceLT, Nat.reduceLeDiff, and_self, List.forall_mem_cons, List.not_mem_nil, false_implies, implies_true, and_true, true_and, vcOHb]) (by simp only [List.length_cons, List.length_nil, List.map_cons, List.map_nil, List.nodup_cons, List.nodup_nil, List.mem_cons, Nat.reduceAdd, Nat.reduceEqDiff, or_false, not_false_eq_true, forall_eq_or_imp, forall_eq, or_self, Nat.reduceLT, Nat.reduceLeDiff, and_self, List.forall_mem_cons, List.not_mem_nil, false_implies, implies_true, and_true, true_and, vcOHb]) fun B w hpre => ?_; simp only [List.length_cons, List.length_nil, Tryd.ntmps63, Nat.reduceAdd, Nat.reduceSub, List.replicate_succ, List.replicate_zero, List.cons_append, List.nil_append])
  have hN0 := hpre
  have h0 := Kn.entry (P := Tryd.prog) ((natsAt_stays _ x n l).and (natsAt_stays _ y n l)) hpre
  have hNx := h0.left
  have hNy := h0.right
  clear hpre h0
  (repeat' ((first | with_reducible (first | apply XQ_cons | apply XQ_consG | apply XQ_nil | apply XR_cons | apply XR_consG | apply XR_nil | apply cF_pure3 (by assumption) | apply cV_pure3 (by assumption) | apply cF_ev3 (by assumption) | apply cV_ev3 (by assumption)) | ((with_reducible apply cF_new3 (by assumption)); (first | rintro _ _ ⟨rfl, rfl⟩ | rintro _ _ ⟨_, _, rfl, rfl⟩)) | (with_reducible apply X_drawC (id := 6) 9; (next => (kernel_rfl)); (next => (kernel_rfl))) | refine X_of _ ?_ | with_reducible (first | exact ⟨_, rfl⟩ | refine And.intro ?_ ?_ | intro _)) <;> try simp -implicitDefEqProofs (maxSteps := 1000000) (disch := first | exact dz3 | fail) only [vcR, vcT, simprocAttr, Ab.part, implies_true, forall_const, true_or, Option.isNone_some, Option.isNone_none, vcXHb, Tryd.f63, List.toList_toArray, arr4_zero, nat4_set1, nat4_setL, nat4_set0, bne_self_eq_false]))
  refine X_loop (ι := Nat) (fun i => i ≤ n) (fun i => n - i) [5, 11, 12, 13, 14, 15, 16, 17, 18, 19, 20, 21, 22, 23, 24, 25]
    (fun i => [(5, .s (.v (.int .i64 (i : Nat))))])
    (fun i => []) 0 (shape_of fun i => ?_) (by decide) ?_ ?_
  · simp only [List.length_cons, List.length_nil, List.map_cons, List.map_nil, List.nodup_cons, List.nodup_nil, List.mem_cons, Nat.reduceAdd, Nat.reduceEqDiff, or_false, not_false_eq_true, forall_eq_or_imp, forall_eq, or_self, Nat.reduceLT, Nat.reduceLeDiff, and_self, List.forall_mem_cons, List.not_mem_nil, false_implies, implies_true, and_true, true_and, vcOHb]
  · simp -implicitDefEqProofs (maxSteps := 1000000) (disch := first | exact dz3 | fail) only [vcR, vcT, simprocAttr, Ab.part, implies_true, forall_const, true_or, Option.isNone_some, Option.isNone_none, vcXHb, Tryd.f63, List.toList_toArray, again_eq]
    first | exact ⟨_, rfl⟩ | (simp; done)
  · intro i us hi
    by_cases h : i < n
    · obtain ⟨ad, rfl⟩ : ∃ ad, x = some ad := by
        rcases hN0.1 with h0 | ⟨ad, h0, _⟩
        · omega
        · exact ⟨ad, h0⟩
      obtain ⟨ay, rfl⟩ : ∃ ad, y = some ad := by
        rcases hN0.2 with h0 | ⟨ad, h0, _⟩
        · omega
        · exact ⟨ad, h0⟩
      have hx : ∀ {K : TV → HE → Prop}, xext (ctxE Tryd.prog (modEvo 108) w B) (some true) 4 (ad.add (i * 4)) K = K (.agg (nat4 (l i))) .none := fun {K} => hNx.nat h
      have hy : ∀ {K : TV → HE → Prop}, xext (ctxE Tryd.prog (modEvo 108) w B) (some true) 4 (ay.add (i * 4)) K = K (.agg (nat4 (l i))) .none := fun {K} => hNy.nat h
      clear hN0 hl
      (repeat' ((first | with_reducible (first | apply XQ_cons | apply XQ_consG | apply XQ_nil | apply XR_cons | apply XR_consG | apply XR_nil | apply cF_pure3 (by assumption) | apply cV_pure3 (by assumption) | apply cF_ev3 (by assumption) | apply cV_ev3 (by assumption)) | ((with_reducible apply cF_new3 (by assumption)); (first | rintro _ _ ⟨rfl, rfl⟩ | rintro _ _ ⟨_, _, rfl, rfl⟩)) | (with_reducible apply X_drawC (id := 6) 9; (next => (kernel_rfl)); (next => (kernel_rfl))) | refine X_of _ ?_ | with_reducible (first | exact ⟨_, rfl⟩ | refine And.intro ?_ ?_ | intro _)) <;> try simp -implicitDefEqProofs (maxSteps := 1000000) (disch := first | exact dz3 | fail) only [vcR, vcT, simprocAttr, Ab.part, implies_true, forall_const, true_or, Option.isNone_some, Option.isNone_none, vcXHb, Tryd.f63, List.toList_toArray, arr4_zero, nat4_set1, nat4_setL, nat4_set0, hx,hy,litsEq_self]))
      refine ⟨i + 1, by omega, ?_⟩
      simp -implicitDefEqProofs (maxSteps := 1000000) (disch := first | exact dz3 | fail) only [vcR, vcT, simprocAttr, Ab.part, implies_true, forall_const, true_or, Option.isNone_some, Option.isNone_none, vcXHb, Tryd.f63, List.toList_toArray, again_eq]
      first | exact ⟨_, rfl⟩ | (simp; done)
    · have : i = n := by omega
      subst this
      (repeat' ((first | with_reducible (first | apply XQ_cons | apply XQ_consG | apply XQ_nil | apply XR_cons | apply XR_consG | apply XR_nil | apply cF_pure3 (by assumption) | apply cV_pure3 (by assumption) | apply cF_ev3 (by assumption) | apply cV_ev3 (by assumption)) | ((with_reducible apply cF_new3 (by assumption)); (first | rintro _ _ ⟨rfl, rfl⟩ | rintro _ _ ⟨_, _, rfl, rfl⟩)) | (with_reducible apply X_drawC (id := 6) 9; (next => (kernel_rfl)); (next => (kernel_rfl))) | refine X_of _ ?_ | with_reducible (first | exact ⟨_, rfl⟩ | refine And.intro ?_ ?_ | intro _)) <;> try simp -implicitDefEqProofs (maxSteps := 1000000) (disch := first | exact dz3 | fail) only [vcR, vcT, simprocAttr, Ab.part, implies_true, forall_const, true_or, Option.isNone_some, Option.isNone_none, vcXHb, Tryd.f63, List.toList_toArray, arr4_zero, nat4_set1, nat4_setL, nat4_set0]))
def sm1 (m : Nat) (l : Nat → Nat) (a : Nat) : Nat → Bool
  | 0 => false
  | n + 1 => sm1 m l a n || decide (msub m a (l n) = 0)
def sm (m : Nat) (l : Nat → Nat) : Nat → Bool
  | 0 => false
  | n + 1 => sm m l n || sm1 m l (l n) n
theorem sm1_mono {m : Nat} {l : Nat → Nat} {a i : Nat} (h : sm1 m l a i = true) : ∀ n, i ≤ n → sm1 m l a n = true := by
  intro n
  induction n with
  | zero => intro hi; rwa [show i = 0 by omega] at h
  | succ n ih =>
    intro hi
    by_cases h1 : i = n + 1
    · rwa [← h1]
    · show (_ || _) = true
      rw [ih (by omega), Bool.true_or]
theorem sm_mono {m : Nat} {l : Nat → Nat} {i : Nat} (h : sm m l i = true) : ∀ n, i ≤ n → sm m l n = true := by
  intro n
  induction n with
  | zero => intro hi; rwa [show i = 0 by omega] at h
  | succ n ih =>
    intro hi
    by_cases h1 : i = n + 1
    · rwa [← h1]
    · show (_ || _) = true
      rw [ih (by omega), Bool.true_or]
theorem sm_hit {m : Nat} {l : Nat → Nat} {i j n : Nat} (hj : j < i) (hi : i < n) (h : msub m (l i) (l j) = 0) : sm m l n = true := by
  refine sm_mono (i := i + 1) ?_ n (by omega)
  have h1 : sm1 m l (l i) i = true := sm1_mono (i := j + 1) (by show (_ || _) = true; rw [h]; simp) i (by omega)
  show (_ || _) = true
  rw [h1, Bool.or_true]
def upN (m : Nat) (l : Nat → Nat) (i : Nat) : Nat → Nat
  | 0 => 1
  | k + 1 => if k = i then upN m l i k else upN m l i k * l k % m
def dnN (m : Nat) (l : Nat → Nat) (i : Nat) : Nat → Nat
  | 0 => 1
  | k + 1 => if k = i then dnN m l i k else dnN m l i k * msub m (l k) (l i) % m
theorem upN_same {m : Nat} {l : Nat → Nat} {i : Nat} : upN m l i (i + 1) = upN m l i i := if_pos rfl
theorem dnN_same {m : Nat} {l : Nat → Nat} {i : Nat} : dnN m l i (i + 1) = dnN m l i i := if_pos rfl
theorem upN_other {m : Nat} {l : Nat → Nat} {i k : Nat} (h : k ≠ i) : upN m l i (k + 1) = upN m l i k * l k % m := if_neg h
theorem dnN_other {m : Nat} {l : Nat → Nat} {i k : Nat} (h : k ≠ i) : dnN m l i (k + 1) = dnN m l i k * msub m (l k) (l i) % m := if_neg h
theorem upN_lt {m : Nat} (h : OddM m) (l : Nat → Nat) (i : Nat) : ∀ k, upN m l i k < 2 ^ 256
  | 0 => by show 1 < 2 ^ 256; decide
  | k + 1 => by
    show ite _ _ _ < _
    split
    · exact upN_lt h l i k
    · exact h.mod_lt
theorem dnN_lt {m : Nat} (h : OddM m) (l : Nat → Nat) (i : Nat) : ∀ k, dnN m l i k < 2 ^ 256
  | 0 => by show 1 < 2 ^ 256; decide
  | k + 1 => by
    show ite _ _ _ < _
    split
    · exact dnN_lt h l i k
    · exact h.mod_lt
def wgt (m : Nat) (l : Nat → Nat) (n i : Nat) : Nat := upN m l i n * inv m (dnN m l i n) % m
def wgE (m : Nat) (l : Nat → Nat) (n i : Nat) : Int := invE m (dnN m l i n)
theorem wgt_lt {m : Nat} (h : OddM m) (l : Nat → Nat) (n i : Nat) : wgt m l n i < 2 ^ 256 := h.mod_lt
def wE (m : Nat) (l : Nat → Nat) (n : Nat) : Nat → Int
  | 0 => 0
  | k + 1 => if wE m l n k = 0 then wgE m l n k else wE m l n k
theorem wE_stuck {m n i : Nat} {l : Nat → Nat} (h : wE m l n i ≠ 0) : ∀ k, i ≤ k → wE m l n k = wE m l n i := by
  intro k
  induction k with
  | zero => intro hi; rw [show i = 0 by omega]
  | succ k ih =>
    intro hi
    by_cases h1 : i = k + 1
    · rw [h1]
    · have := ih (by omega)
      show ite _ _ _ = _
      rw [this, if_neg h]
def WE (m : Nat) (l : Nat → Nat) (n : Nat) : Int := if sm m l n then 13 else wE m l n n
def wOut (t : TypeId) (m : Nat) (l : Nat → Nat) (n : Nat) (v : TV) (H : Heap) : Prop :=
  (WE m l n ≠ 0 ∧ v = .tup [.s (.v (.slice none 0 0)), .s (.v (.int .i64 (WE m l n)))] ∧ H = []) ∨
  (WE m l n = 0 ∧ ∃ (c : Nat) (sp : List Value), (n ≠ 0 → n ≤ c ∧ sp.length = (c - n) * 4) ∧ v = .tup [.s (rowV 0 n c), .s (.v (.int .i64 0))] ∧ H = rowH t n (nats n (wgt m l n)) sp)
theorem ok_two {a b : SV} {n : Nat} (ha : a.ok n) (hb : b.ok n) : TV.ok n (.tup [.s a, .s b]) := by
  intro x hx
  simp only [List.mem_cons, List.not_mem_nil, or_false] at hx
  rcases hx with rfl | rfl
  · exact ha
  · exact hb
theorem gives_err {t : TypeId} {m : Nat} {l : Nat → Nat} {n : Nat} {e : Int} {H : Heap} (h : WE m l n = e) (he : e ≠ 0) : Gives (wOut t m l n) (.tup [.s (.v (.slice none 0 0)), .s (.v (.int .i64 e))]) H :=
  ⟨[], .tup [.s (.v (.slice none 0 0)), .s (.v (.int .i64 e))], [], .inl ⟨by rw [h]; exact he, by rw [h], rfl⟩, List.nodup_nil, rfl, ok_two trivial trivial, trivial, fun b hb => by simp at hb⟩
theorem gives_ok {t : TypeId} {m : Nat} {l : Nat → Nat} {n j c : Nat} {sp : List Value} {H : Heap} (h : WE m l n = 0) (hc : n ≠ 0 → n ≤ c ∧ sp.length = (c - n) * 4) (hH : n ≠ 0 → H[j]? = some ⟨t, nats n (wgt m l n) ++ sp.map .v⟩) :
    Gives (wOut t m l n) (.tup [.s (rowV j n c), .s (.v (.int .i64 0))]) H := by
  by_cases h0 : n = 0
  · subst h0
    exact ⟨[], .tup [.s (.v (.slice none 0 0)), .s (.v (.int .i64 0))], [], .inr ⟨h, c, sp, hc, rfl, rfl⟩, List.nodup_nil, rfl, ok_two trivial trivial, trivial, fun b hb => by simp at hb⟩
  · refine ⟨[j], .tup [.s (rowV 0 n c), .s (.v (.int .i64 0))], [⟨t, nats n (wgt m l n) ++ sp.map .v⟩], .inr ⟨h, c, sp, hc, rfl, (rowH_s h0).symm⟩, by simp, ?_, ok_two (rowV_ok fun _ => Nat.zero_lt_one) trivial, ⟨hH h0, trivial⟩, ?_⟩
    · rw [rowV_s h0, rowV_s h0]
      rfl
    · intro b hb x hx
      simp only [List.mem_cons, List.not_mem_nil, or_false] at hb
      subst hb
      rcases List.mem_append.1 hx with hx | hx
      · exact nats_ok 0 x hx
      · exact vals_ok x hx
def px (l : Nat → Nat) (i : Nat) : Nat := l (2 * i)
def py (l : Nat → Nat) (i : Nat) : Nat := l (2 * i + 1)
theorem sumM_0 {m : Nat} {l : Nat → Nat} : sumM m l 0 = 0 := rfl
def prt (m : Nat) (l : Nat → Nat) (n i : Nat) : Nat := py l i * wgt m (px l) n i % m
def atz (m : Nat) (l : Nat → Nat) (n : Nat) : Nat := if WE m (px l) n = 0 then sumM m (prt m l n) n else 0
theorem atz_0 {m : Nat} {l : Nat → Nat} {n : Nat} (h : WE m (px l) n = 0) : atz m l n = sumM m (prt m l n) n := if_pos h
theorem atz_e {m : Nat} {l : Nat → Nat} {n : Nat} (h : WE m (px l) n ≠ 0) : atz m l n = 0 := if_neg h
theorem weight_e (kb m : Nat) (x : Option Addr) (n c : Nat) (l : Nat → Nat) (i : Nat) (hG : OddM m) (hl : ∀ i, l i < 2 ^ 256) (hn : n < 9223372036854775808) (hi : i < n) :
    EvC (modEvo 108) Tryd.prog 103 [.s (.v (.pointer (some ⟨kb, 0, none⟩))), .s (.v (.slice x n c)), .s (.v (.int .i64 (i : Int)))] (fun B w => isMod 108 kb m B w ∧ natsAt (modEvo 108) x n l B w)
      (.tup [.agg (nat4 (wgt m l n i)), .s (.v (.int .i64 (wgE m l n i)))]) := by
  obtain ⟨W, hW⟩ : ∃ W, wgt m l n i = W := ⟨_, rfl⟩
  obtain ⟨E, hE⟩ : ∃ E, wgE m l n i = E := ⟨_, rfl⟩
  rw [hW, hE]
  (refine evC_of Tryd.func103 rfl (by simp only [List.length_cons, List.length_nil, List.map_cons, List.map_nil, List.nodup_cons, List.nodup_nil, List.mem_cons, Nat.reduceAdd, Nat.reduceEqDiff, or_false, not_false_eq_true, forall_eq_or_imp, forall_eq, or_self, Nat.reduceLT, Nat.reduceLeDiff, and_self, List.forall_mem_cons, List.not_mem_nil, false_implies, implies_true, and_true, true_and, vcOAb25]) (by simp only [List.length_cons, List.length_nil, List.map_cons, List.map_nil, List.nodup_cons, List.nodup_nil, List.mem_cons, Nat.reduceAdd, Nat.reduceEqDiff, or_false, not_false_eq_true, forall_eq_or_imp, forall_eq, or_self, Nat.reduceLT, Nat.reduceLeDiff, and_self, List.forall_mem_cons, List.not_mem_nil, false_implies, implies_true, and_true, true_and, vcOAb25]) fun B w hpre => ?_; simp only [List.length_cons, List.length_nil, Tryd.ntmps103, Nat.reduceAdd, Nat.reduceSub, List.replicate_succ, List.replicate_zero, List.cons_append, List.nil_append])
  have hM : Kn (ctxE Tryd.prog (modEvo 108) w B) (isMod 108 kb m) := Kn.entry (isMod_stays _ kb m) hpre.1
  have hN : Kn (ctxE Tryd.prog (modEvo 108) w B) (natsAt (modEvo 108) x n l) := Kn.entry (natsAt_stays _ x n l) hpre.2
  obtain ⟨ad, rfl⟩ : ∃ ad, x = some ad := by
    rcases hpre.2 with h0 | ⟨ad, h0, _⟩
    · omega
    · exact ⟨ad, h0⟩
  clear hpre
  have hxi : ∀ {K : TV → HE → Prop}, xext (ctxE Tryd.prog (modEvo 108) w B) (some true) 4 (ad.add (i * 4)) K = K (.agg (nat4 (l i))) .none := fun {K} => hN.nat hi
  (repeat' ((first | with_reducible (first | apply XQ_cons | apply XQ_consG | apply XQ_nil | apply XR_cons | apply XR_consG | apply XR_nil | apply cF_pure (by assumption) | apply cV_pure (by assumption) | apply cF_ev (by assumption) | apply cV_ev (by assumption) | apply cF_ev (minus_e _ _ _ _ bd bd bd) | apply cV_ev (minus_e _ _ _ _ bd bd bd) | apply cF_ev (times_e _ _ _ _ bd bd bd) | apply cV_ev (times_e _ _ _ _ bd bd bd)) | with_reducible (first | apply gRS (by with_unfolding_all rfl) | apply gR (by with_unfolding_all rfl) | apply gS (by with_unfolding_all rfl) | fail) | (with_reducible apply X_drawC (id := 6) 14; (next => (kernel_rfl)); (next => (kernel_rfl))) | refine X_of _ ?_ | with_reducible (first | exact ⟨_, rfl⟩ | refine And.intro ?_ ?_ | intro _)) <;> try simp -implicitDefEqProofs (maxSteps := 1000000) (disch := first | exact dz | fail) only [vcR, vcT, simprocAttr, Ab.part, implies_true, forall_const, true_or, Option.isNone_some, Option.isNone_none, vcXAb25, Tryd.f103, List.toList_toArray, arr4_zero, nat4_set1, nat4_setL, nat4_set0]))
  refine X_loop (ι := Nat) (fun k => k ≤ n) (fun k => n - k) [10, 11, 18, 19, 20, 21, 22, 23, 24, 25, 26, 27, 28, 29, 30, 31, 32, 33, 34, 35, 36, 37, 38, 39, 40]
    (fun k => [(18, .s (.v (.int .i64 (k : Nat))))])
    (fun k => [(1, nat4 (upN m l i k)), (2, nat4 (dnN m l i k))]) 0 (shape_of fun k => ?_) (by decide) ?_ ?_
  · simp only [List.length_cons, List.length_nil, List.map_cons, List.map_nil, List.nodup_cons, List.nodup_nil, List.mem_cons, Nat.reduceAdd, Nat.reduceEqDiff, or_false, not_false_eq_true, forall_eq_or_imp, forall_eq, or_self, Nat.reduceLT, Nat.reduceLeDiff, and_self, List.forall_mem_cons, List.not_mem_nil, false_implies, implies_true, and_true, true_and, vcOAb25]
  · simp -implicitDefEqProofs (maxSteps := 1000000) (disch := first | exact dz | fail) only [vcR, vcT, simprocAttr, Ab.part, implies_true, forall_const, true_or, Option.isNone_some, Option.isNone_none, vcXAb25, Tryd.f103, List.toList_toArray, again_eq]
    try simp
    exact ⟨rfl, rfl⟩
  · intro k us hk
    have hu := upN_lt hG l i k
    have hd := dnN_lt hG l i k
    by_cases h : k < n
    · have hx : ∀ {K : TV → HE → Prop}, xext (ctxE Tryd.prog (modEvo 108) w B) (some true) 4 (ad.add (k * 4)) K = K (.agg (nat4 (l k))) .none := fun {K} => hN.nat h
      have hlk := hl k
      have hli := hl i
      have hms : msub m (l k) (l i) < 2 ^ 256 := OddM.msub_lt hG
      clear hl
      by_cases hki : k = i
      · subst hki
        have hne : (k != k) = false := bne_self_eq_false k
        (repeat' ((first | with_reducible (first | apply XQ_cons | apply XQ_consG | apply XQ_nil | apply XR_cons | apply XR_consG | apply XR_nil | apply cF_pure (by assumption) | apply cV_pure (by assumption) | apply cF_ev (by assumption) | apply cV_ev (by assumption) | apply cF_ev (minus_e _ _ _ _ bd bd bd) | apply cV_ev (minus_e _ _ _ _ bd bd bd) | apply cF_ev (times_e _ _ _ _ bd bd bd) | apply cV_ev (times_e _ _ _ _ bd bd bd)) | with_reducible (first | apply gRS (by with_unfolding_all rfl) | apply gR (by with_unfolding_all rfl) | apply gS (by with_unfolding_all rfl) | fail) | (with_reducible apply X_drawC (id := 6) 14; (next => (kernel_rfl)); (next => (kernel_rfl))) | refine X_of _ ?_ | with_reducible (first | exact ⟨_, rfl⟩ | refine And.intro ?_ ?_ | intro _)) <;> try simp -implicitDefEqProofs (maxSteps := 1000000) (disch := first | exact dz | fail) only [vcR, vcT, simprocAttr, Ab.part, implies_true, forall_const, true_or, Option.isNone_some, Option.isNone_none, vcXAb25, Tryd.f103, List.toList_toArray, arr4_zero, nat4_set1, nat4_setL, nat4_set0, hx,hne]))
        refine ⟨k + 1, by omega, ?_⟩
        simp -implicitDefEqProofs (maxSteps := 1000000) (disch := first | exact dz | fail) only [vcR, vcT, simprocAttr, Ab.part, implies_true, forall_const, true_or, Option.isNone_some, Option.isNone_none, vcXAb25, Tryd.f103, List.toList_toArray, again_eq,upN_same,dnN_same]
        first | exact ⟨_, rfl, rfl⟩ | exact ⟨_, rfl⟩ | rfl | trace_state
      · have hne : (k != i) = true := bne_iff_ne.2 hki
        have hu1 := upN_other (m := m) (l := l) hki
        have hd1 := dnN_other (m := m) (l := l) hki
        (repeat' ((first | with_reducible (first | apply XQ_cons | apply XQ_consG | apply XQ_nil | apply XR_cons | apply XR_consG | apply XR_nil | apply cF_pure (by assumption) | apply cV_pure (by assumption) | apply cF_ev (by assumption) | apply cV_ev (by assumption) | apply cF_ev (minus_e _ _ _ _ bd bd bd) | apply cV_ev (minus_e _ _ _ _ bd bd bd) | apply cF_ev (times_e _ _ _ _ bd bd bd) | apply cV_ev (times_e _ _ _ _ bd bd bd)) | with_reducible (first | apply gRS (by with_unfolding_all rfl) | apply gR (by with_unfolding_all rfl) | apply gS (by with_unfolding_all rfl) | fail) | (with_reducible apply X_drawC (id := 6) 14; (next => (kernel_rfl)); (next => (kernel_rfl))) | refine X_of _ ?_ | with_reducible (first | exact ⟨_, rfl⟩ | refine And.intro ?_ ?_ | intro _)) <;> try simp -implicitDefEqProofs (maxSteps := 1000000) (disch := first | exact dz | fail) only [vcR, vcT, simprocAttr, Ab.part, implies_true, forall_const, true_or, Option.isNone_some, Option.isNone_none, vcXAb25, Tryd.f103, List.toList_toArray, arr4_zero, nat4_set1, nat4_setL, nat4_set0, hx,hxi,hne]))
        refine ⟨k + 1, by omega, ?_⟩
        simp -implicitDefEqProofs (maxSteps := 1000000) (disch := first | exact dz | fail) only [vcR, vcT, simprocAttr, Ab.part, implies_true, forall_const, true_or, Option.isNone_some, Option.isNone_none, vcXAb25, Tryd.f103, List.toList_toArray, again_eq,hu1,hd1]
        first | exact ⟨_, rfl, rfl⟩ | exact ⟨_, rfl⟩ | rfl | trace_state
    · have : k = n := by omega
      subst this
      clear hl hxi
      have hinv := inverse_e kb m (dnN m l i k) hG hd
      unfold wgt at hW
      unfold wgE at hE
      have hil : inv m (dnN m l i k) < 2 ^ 256 := OddM.inv_lt hG
      (repeat' ((first | with_reducible (first | apply XQ_cons | apply XQ_consG | apply XQ_nil | apply XR_cons | apply XR_consG | apply XR_nil | apply cF_pure (by assumption) | apply cV_pure (by assumption) | apply cF_ev (by assumption) | apply cV_ev (by assumption) | apply cF_ev (minus_e _ _ _ _ bd bd bd) | apply cV_ev (minus_e _ _ _ _ bd bd bd) | apply cF_ev (times_e _ _ _ _ bd bd bd) | apply cV_ev (times_e _ _ _ _ bd bd bd)) | with_reducible (first | apply gRS (by with_unfolding_all rfl) | apply gR (by with_unfolding_all rfl) | apply gS (by with_unfolding_all rfl) | fail) | (with_reducible apply X_drawC (id := 6) 14; (next => (kernel_rfl)); (next => (kernel_rfl))) | refine X_of _ ?_ | with_reducible (first | exact ⟨_, rfl⟩ | refine And.intro ?_ ?_ | intro _)) <;> try simp -implicitDefEqProofs (maxSteps := 1000000) (disch := first | exact dz | fail) only [vcR, vcT, simprocAttr, Ab.part, implies_true, forall_const, true_or, Option.isNone_some, Option.isNone_none, vcXAb25, Tryd.f103, List.toList_toArray, arr4_zero, nat4_set1, nat4_setL, nat4_set0]))
      · rw [hW]
      · exact hE
end Go.Proofs.YtdmcknmjdlghgaaDoor
